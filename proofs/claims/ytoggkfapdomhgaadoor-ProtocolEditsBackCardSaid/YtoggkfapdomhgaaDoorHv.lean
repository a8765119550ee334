/- The walk of ProtocolEditsBack. Conditions: each theorem's own premises. -/
import Derived.Test.YtoggkfapdomhgaaDoorHu
import Derived.Test.YtoggkfapdomhgaaDoorHr
namespace Go.Proofs.YtoggkfapdomhgaaDoor.Pr
open Go.RowKit Go.Proofs.YtoggkfapdomhgaaDoorW.PrintWords Go.Proofs.YtoggkfapdomhgaaDoorW.PrintLast Go.Proofs.YtoggkfapdomhgaaDoorW.PrintMore
set_option linter.unusedVariables false
set_option linter.unusedSimpArgs false
set_option maxRecDepth 100000
theorem chg_kind {P Q : S27} {E : S32} (h : chg P E = some Q) : E.f0 = 1 ∨ E.f0 = 2 ∨ E.f0 = 3 ∨ E.f0 = 4 ∨ E.f0 = 5 ∨ E.f0 = 6 := by
  unfold chg at h
  split at h
  · omega
  · split at h
    · omega
    · split at h
      · omega
      · cases h
theorem short_z30 : ShortR z30 := by unfold ShortR; decide
theorem k30_z (w : World) : k30.K w z30 [.string (⟨#[]⟩ : ByteArray), .int .i64 0, .int .i64 0, .int .i64 0, .int .i64 0, .int .i64 0, .slice none 0 0, .slice none 0 0, .slice none 0 0, .slice none 0 0, .int .i64 0, .int .i64 0, .slice none 0 0, .int .i64 0, .slice none 0 0, .slice none 0 0, .slice none 0 0, .int .i64 0] := k30_mk w z30 (A6 := none) (c6 := 0) (by decide) (Kd.C_nil _ w) (A7 := none) (c7 := 0) (by decide) (Kd.C_nil _ w) (A8 := none) (c8 := 0) (by decide) (Kd.C_nil _ w) (A9 := none) (c9 := 0) (by decide) (Kd.C_nil _ w) (A12 := none) (c12 := 0) (by decide) (Kd.C_nil _ w) (A14 := none) (c14 := 0) (by decide) (Kd.C_nil _ w) (A15 := none) (c15 := 0) (by decide) (Kd.C_nil _ w) (A16 := none) (c16 := 0) (by decide) (Kd.C_nil _ w)
theorem k32_of {w : World} {x : S32} {cs : List Value} (h : k30.K w x.f2 cs) : k32.K w x (.int .i64 x.f0 :: .int .i64 x.f1 :: (cs ++ [.int .i64 x.f3, .string x.f4])) := ⟨[.int .i64 x.f0], .int .i64 x.f1 :: (cs ++ [.int .i64 x.f3, .string x.f4]), rfl, rfl, ⟨[.int .i64 x.f1], cs ++ [.int .i64 x.f3, .string x.f4], rfl, rfl, ⟨cs, [.int .i64 x.f3, .string x.f4], rfl, h, ⟨[.int .i64 x.f3], [.string x.f4], rfl, rfl, rfl⟩⟩⟩⟩
def back.T11 : Bool × List (List Nat × List Nat) := (true, [([], []), ([0], [0]), ([], []), ([2], [2]), ([], []), ([4], [4]), ([3, 5], [3, 5]), ([6], [6]), ([1, 7], [1, 7]), ([8, 0, 1, 2, 3, 4, 5, 6, 7, 8], [8])])
def back.B11 : List Nat := [0, 1, 0, 4, 0, 16, 60, 124, 255, 511]
theorem back.tab11 : rtab .any (opsOf Tryd.f3 11) = back.T11 := by kernel_rfl
theorem back.bits11 : waitsOk back.T11.2 back.B11 = true := by kernel_rfl
def back.T21 : Bool × List (List Nat × List Nat) := (true, [([], []), ([0], [0]), ([], []), ([2], [2]), ([], []), ([4], [4]), ([3, 5], [3, 5]), ([6], [6]), ([1, 7], [1, 7]), ([8, 0, 1, 2, 3, 4, 5, 6, 7, 8], [8])])
def back.B21 : List Nat := [0, 1, 0, 4, 0, 16, 60, 124, 255, 511]
theorem back.tab21 : rtab .any (opsOf Tryd.f3 21) = back.T21 := by kernel_rfl
theorem back.bits21 : waitsOk back.T21.2 back.B21 = true := by kernel_rfl
set_option maxHeartbeats 16000000 in
theorem back_any (P : S27) (E : S32) (cs es : List Value) (w : World) (hG : Glob w) (hP : k27.K w P cs) (hE : k32.K w E es) :
    Calls Tryd.prog 3 #[.agg cs.toArray, .agg es.toArray] w fun e w' => e = .returned (.bool true) ∧ Below w.heap.size w w' := by
  have HKP := Aside0.mk hP
  have HKE := Aside0.mk hE
  have HG := Aside0.mk hG
  obtain ⟨B2, d2, B3, d3, B4, d4, B6, d6, B7, d7, B8, d8, B9, d9, rfl, _, g2, _, _, _, _, _, _, _, _, _, _, _, g9⟩ := k27_open hP
  obtain ⟨A6, c6, A7, c7, A8, c8, A9, c9, A12, c12, A14, c14, A15, c15, A16, c16, rfl, l6, g6, l7, g7, l8, g8, l9, g9', l12, g12, l14, g14, l15, g15, l16, g16⟩ := k32_open hE
  have HRK := Aside0.mk (k30_mk w E.f2 l6 g6 l7 g7 l8 g8 l9 g9' l12 g12 l14 g14 l15 g15 l16 g16)
  have h9m := g9.2.1
  have G9 := Aside0.mk g9
  have G2 := Aside0.mk g2
  clear l6 g6 l7 g7 l8 g8 l9 g9 g9' l12 g12 l14 g14 l15 g15 l16 g16 hP hE hG g2
  go_enter Tryd.func3, Tryd.ntmps3
  go_upto_region 1 with (fail)
  obtain ⟨g, hg⟩ : ∃ g, g = w.heap.size := ⟨_, rfl⟩
  obtain ⟨g2, hg2⟩ : ∃ g2, g2 = w.heap.size + 1 := ⟨_, rfl⟩
  obtain ⟨w1, hw1⟩ : ∃ w1, w1 = (w.alloc (.cells #[.string P.f0, .int .i64 P.f1, .slice B2 P.f2.length d2, .slice B3 P.f3.length d3, .slice B4 P.f4.length d4, .int .i64 P.f5, .slice B6 P.f6.length d6, .slice B7 P.f7.length d7, .slice B8 P.f8.length d8, .slice B9 P.f9.length d9] 27)).alloc (.cells #[.int .i64 E.f0, .int .i64 E.f1, .string E.f2.f0, .int .i64 E.f2.f1, .int .i64 E.f2.f2, .int .i64 E.f2.f3, .int .i64 E.f2.f4, .int .i64 E.f2.f5, .slice A6 E.f2.f6.length c6, .slice A7 E.f2.f7.length c7, .slice A8 E.f2.f8.length c8, .slice A9 E.f2.f9.length c9, .int .i64 E.f2.f10, .int .i64 E.f2.f11, .slice A12 E.f2.f12.length c12, .int .i64 E.f2.f13, .slice A14 E.f2.f14.length c14, .slice A15 E.f2.f15.length c15, .slice A16 E.f2.f16.length c16, .int .i64 E.f2.f17, .int .i64 E.f3, .string E.f4] 32) := ⟨_, rfl⟩
  have s1 : (w.alloc (.cells #[.string P.f0, .int .i64 P.f1, .slice B2 P.f2.length d2, .slice B3 P.f3.length d3, .slice B4 P.f4.length d4, .int .i64 P.f5, .slice B6 P.f6.length d6, .slice B7 P.f7.length d7, .slice B8 P.f8.length d8, .slice B9 P.f9.length d9] 27)).heap.size = g2 := by rw [hg2]; simp
  rw [← hw1]
  have BP : Aside0 (w1.heap[g]? = some (.cells #[.string P.f0, .int .i64 P.f1, .slice B2 P.f2.length d2, .slice B3 P.f3.length d3, .slice B4 P.f4.length d4, .int .i64 P.f5, .slice B6 P.f6.length d6, .slice B7 P.f7.length d7, .slice B8 P.f8.length d8, .slice B9 P.f9.length d9] 27 (0, 0))) := ⟨by rw [hw1, hg]; exact blk_alloc (heap_alloc_new w _) _⟩
  have BE : Aside0 (w1.heap[g2]? = some (.cells #[.int .i64 E.f0, .int .i64 E.f1, .string E.f2.f0, .int .i64 E.f2.f1, .int .i64 E.f2.f2, .int .i64 E.f2.f3, .int .i64 E.f2.f4, .int .i64 E.f2.f5, .slice A6 E.f2.f6.length c6, .slice A7 E.f2.f7.length c7, .slice A8 E.f2.f8.length c8, .slice A9 E.f2.f9.length c9, .int .i64 E.f2.f10, .int .i64 E.f2.f11, .slice A12 E.f2.f12.length c12, .int .i64 E.f2.f13, .slice A14 E.f2.f14.length c14, .slice A15 E.f2.f15.length c15, .slice A16 E.f2.f16.length c16, .int .i64 E.f2.f17, .int .i64 E.f3, .string E.f4] 32 (0, 0))) := ⟨by rw [hw1, ← s1]; exact heap_alloc_new _ _⟩
  have HB : Aside0 (Below w.heap.size w w1) := ⟨by rw [hw1]; exact ((Below.refl _ _).alloc (Nat.le_refl _) _).alloc (by simp) _⟩
  have n_KP := Aside0.mk (k27.K_below HB.out HKP.out)
  have n_KE := Aside0.mk (k32.K_below HB.out HKE.out)
  have n_RK := Aside0.mk (k30.K_below HB.out HRK.out)
  clear HKP HKE HRK
  have HKP := n_KP
  have HKE := n_KE
  have HRK := n_RK
  simp only [← hg2]
  simp only [← hg]
  clear hw1 s1 hg hg2 n_KP n_KE n_RK
  go_wp2_with ((with_reducible refine gate_dst (N := 11) rfl ?_); (try (refine gate_guard (by rfl) ?_; dsimp only)); refine Kd.event_run rfl (load_run 27 (.tmp 2) rfl ⟨g, 0, none⟩ (by go_simp) [.string P.f0, .int .i64 P.f1, .slice B2 P.f2.length d2, .slice B3 P.f3.length d3, .slice B4 P.f4.length d4, .int .i64 P.f5, .slice B6 P.f6.length d6, .slice B7 P.f7.length d7, .slice B8 P.f8.length d8, .slice B9 P.f9.length d9] (fun w => Tryd.sizeOf27 w) Tryd.isAgg27 (blk_list BP.out)) ?_)
  refine (big_weak P _ w1 HKP.out).mono ?_
  rintro e w2 ⟨b, rfl, hsh, hV⟩
  have n_BP := Aside0.mk (blk_below BP.out hV)
  have n_BE := Aside0.mk (blk_below BE.out hV)
  have n_HKP := Aside0.mk (k27.K_below hV HKP.out)
  have n_HKE := Aside0.mk (k32.K_below hV HKE.out)
  have n_HRK := Aside0.mk (k30.K_below hV HRK.out)
  have n_HB := Aside0.mk (HB.out.trans (Below.mono hV HB.out.size))
  clear BP BE HKP HKE HRK HB
  have BP := n_BP
  have BE := n_BE
  have HKP := n_HKP
  have HKE := n_HKE
  have HRK := n_HRK
  have HB := n_HB
  clear n_BP n_BE n_HKP n_HKE n_HRK n_HB
  clear hV
  cases b
  rotate_left
  · go_wp2_with fail
    refine (known_any _ (Glob_below HG.out HB.out)).mono ?_
    rintro e wz ⟨rfl, hz⟩
    have hBz := HB.out.trans (Below.mono hz HB.out.size)
    go_wp2_with fail
    go_ret
    exact ⟨rfl, hBz⟩
  · have hMid := mid_of (hsh rfl).1 (hsh rfl).2
    have HM := Aside0.mk hMid
    clear hMid hsh
    go_wp2_with ((with_reducible refine gate_dst (N := 15) rfl ?_); (try (refine gate_guard (by rfl) ?_; dsimp only)); refine Kd.event_run rfl (load_run 30 (.tmp 14) rfl ⟨g2, 2, none⟩ (by go_simp) [.string E.f2.f0, .int .i64 E.f2.f1, .int .i64 E.f2.f2, .int .i64 E.f2.f3, .int .i64 E.f2.f4, .int .i64 E.f2.f5, .slice A6 E.f2.f6.length c6, .slice A7 E.f2.f7.length c7, .slice A8 E.f2.f8.length c8, .slice A9 E.f2.f9.length c9, .int .i64 E.f2.f10, .int .i64 E.f2.f11, .slice A12 E.f2.f12.length c12, .int .i64 E.f2.f13, .slice A14 E.f2.f14.length c14, .slice A15 E.f2.f15.length c15, .slice A16 E.f2.f16.length c16, .int .i64 E.f2.f17] (fun w => Tryd.sizeOf30 w) Tryd.isAgg30 (mid_cells [.int .i64 E.f0, .int .i64 E.f1] [.string E.f2.f0, .int .i64 E.f2.f1, .int .i64 E.f2.f2, .int .i64 E.f2.f3, .int .i64 E.f2.f4, .int .i64 E.f2.f5, .slice A6 E.f2.f6.length c6, .slice A7 E.f2.f7.length c7, .slice A8 E.f2.f8.length c8, .slice A9 E.f2.f9.length c9, .int .i64 E.f2.f10, .int .i64 E.f2.f11, .slice A12 E.f2.f12.length c12, .int .i64 E.f2.f13, .slice A14 E.f2.f14.length c14, .slice A15 E.f2.f15.length c15, .slice A16 E.f2.f16.length c16, .int .i64 E.f2.f17] [.int .i64 E.f3, .string E.f4] BE.out)) ?_)
    refine (bigRule_weak E.f2 _ w2 HRK.out).mono ?_
    rintro e w3 ⟨b, rfl, hsh, hV⟩
    have n_BP := Aside0.mk (blk_below BP.out hV)
    have n_BE := Aside0.mk (blk_below BE.out hV)
    have n_HKP := Aside0.mk (k27.K_below hV HKP.out)
    have n_HKE := Aside0.mk (k32.K_below hV HKE.out)
    have n_HRK := Aside0.mk (k30.K_below hV HRK.out)
    have n_HB := Aside0.mk (HB.out.trans (Below.mono hV HB.out.size))
    clear BP BE HKP HKE HRK HB
    have BP := n_BP
    have BE := n_BE
    have HKP := n_HKP
    have HKE := n_HKE
    have HRK := n_HRK
    have HB := n_HB
    clear n_BP n_BE n_HKP n_HKE n_HRK n_HB
    clear hV
    cases b
    rotate_left
    · go_wp2_with fail
      refine (known_any _ (Glob_below HG.out HB.out)).mono ?_
      rintro e wz ⟨rfl, hz⟩
      have hBz := HB.out.trans (Below.mono hz HB.out.size)
      go_wp2_with fail
      go_ret
      exact ⟨rfl, hBz⟩
    · have HL := Aside0.mk (hsh rfl)
      clear hsh
      have x21 : w3.cell? ⟨g2, 21, none⟩ = some (.string E.f4) := (blk_cell BE.out 21).trans rfl
      by_cases hnm : (500 : Int) < (E.f4.size : Int)
      · have q0 : decide ((500 : Int) < (E.f4.size : Int)) = true := decide_eq_true hnm
        go_wp2_with fail
        refine (known_any _ (Glob_below HG.out HB.out)).mono ?_
        rintro e wz ⟨rfl, hz⟩
        have hBz := HB.out.trans (Below.mono hz HB.out.size)
        go_wp2_with fail
        go_ret
        exact ⟨rfl, hBz⟩
      have q0 : decide ((500 : Int) < (E.f4.size : Int)) = false := decide_eq_false hnm
      go_wp2_with (first | ((with_reducible refine gate_dst (N := 26) rfl ?_); (try (refine gate_guard (by rfl) ?_; dsimp only)); refine Kd.event_run rfl (load_run 27 (.tmp 2) rfl ⟨g, 0, none⟩ (by go_simp) [.string P.f0, .int .i64 P.f1, .slice B2 P.f2.length d2, .slice B3 P.f3.length d3, .slice B4 P.f4.length d4, .int .i64 P.f5, .slice B6 P.f6.length d6, .slice B7 P.f7.length d7, .slice B8 P.f8.length d8, .slice B9 P.f9.length d9] (fun w => Tryd.sizeOf27 w) Tryd.isAgg27 (blk_list BP.out)) ?_) | ((with_reducible refine gate_dst (N := 27) rfl ?_); (try (refine gate_guard (by rfl) ?_; dsimp only)); refine Kd.event_run rfl (load_run 32 (.tmp 3) rfl ⟨g2, 0, none⟩ (by go_simp) [.int .i64 E.f0, .int .i64 E.f1, .string E.f2.f0, .int .i64 E.f2.f1, .int .i64 E.f2.f2, .int .i64 E.f2.f3, .int .i64 E.f2.f4, .int .i64 E.f2.f5, .slice A6 E.f2.f6.length c6, .slice A7 E.f2.f7.length c7, .slice A8 E.f2.f8.length c8, .slice A9 E.f2.f9.length c9, .int .i64 E.f2.f10, .int .i64 E.f2.f11, .slice A12 E.f2.f12.length c12, .int .i64 E.f2.f13, .slice A14 E.f2.f14.length c14, .slice A15 E.f2.f15.length c15, .slice A16 E.f2.f16.length c16, .int .i64 E.f2.f17, .int .i64 E.f3, .string E.f4] (fun w => Tryd.sizeOf32 w) Tryd.isAgg32 (blk_list BE.out)) ?_))
      refine (apply_any P E _ _ w3 0 (Glob_below HG.out HB.out) HKP.out HKE.out HM.out (by decide) HL.out).mono ?_
      rintro e w4 ⟨k, qs, rfl, hV, hm⟩
      have n_BP := Aside0.mk (blk_below BP.out hV)
      have n_BE := Aside0.mk (blk_below BE.out hV)
      have n_HKP := Aside0.mk (k27.K_below hV HKP.out)
      have n_HKE := Aside0.mk (k32.K_below hV HKE.out)
      have n_HRK := Aside0.mk (k30.K_below hV HRK.out)
      have n_HB := Aside0.mk (HB.out.trans (Below.mono hV HB.out.size))
      clear BP BE HKP HKE HRK HB
      have BP := n_BP
      have BE := n_BE
      have HKP := n_HKP
      have HKE := n_HKE
      have HRK := n_HRK
      have HB := n_HB
      clear n_BP n_BE n_HKP n_HKE n_HRK n_HB
      clear hV x21
      cases hap : appl validE P E with
      | none =>
        rw [hap] at hm
        obtain ⟨hk, rfl⟩ := hm
        have k0 : (k == 0) = false := beq_eq_false_iff_ne.mpr hk
        clear hap
        go_wp2_with ((with_reducible refine gate_dst (N := 5) rfl ?_); refine new_event rfl rfl #[.string (⟨#[]⟩ : ByteArray), .int .i64 0, .slice none 0 0, .slice none 0 0, .slice none 0 0, .int .i64 0, .slice none 0 0, .slice none 0 0, .slice none 0 0, .slice none 0 0] #[.string (⟨#[]⟩ : ByteArray), .int .i64 0, .slice none 0 0, .slice none 0 0, .slice none 0 0, .int .i64 0, .slice none 0 0, .slice none 0 0, .slice none 0 0, .slice none 0 0] 27 (by first | (go_simp; done) | (go_simp; rfl)) rfl rfl (.tmp 5) (.tmp 29) rfl (by go_simp) (by first | (go_simp; done) | (go_simp; rfl)) (by kernel_rfl) rfl (by simp [Value.oneCell']) ?_; intro g5 hg5 w5 hb5 hV; refine Halt.go ?_)
        unfold Halt
        clear hg5
        have n_BP := Aside0.mk (blk_below BP.out hV)
        have n_BE := Aside0.mk (blk_below BE.out hV)
        have n_HKP := Aside0.mk (k27.K_below hV HKP.out)
        have n_HKE := Aside0.mk (k32.K_below hV HKE.out)
        have n_HRK := Aside0.mk (k30.K_below hV HRK.out)
        have n_HB := Aside0.mk (HB.out.trans (Below.mono hV HB.out.size))
        clear BP BE HKP HKE HRK HB
        have BP := n_BP
        have BE := n_BE
        have HKP := n_HKP
        have HKE := n_HKE
        have HRK := n_HRK
        have HB := n_HB
        clear n_BP n_BE n_HKP n_HKE n_HRK n_HB
        have BA := Aside0.mk hb5
        have p5 : w5.cell? ⟨g5, 2, none⟩ = some (.slice none 0 0) := (blk_cell BA.out 2).trans rfl
        clear hV hb5
        go_wp2_with fail
        refine (known_any _ (Glob_below HG.out HB.out)).mono ?_
        rintro e wz ⟨rfl, hz⟩
        have hBz := HB.out.trans (Below.mono hz HB.out.size)
        go_wp2_with fail
        go_ret
        exact ⟨rfl, hBz⟩
      | some Q =>
        rw [hap] at hm
        obtain ⟨rfl, hkq⟩ := hm
        have HKQ := Aside0.mk hkq
        obtain ⟨hv1, hcq, hv2⟩ := appl_some hap
        have HAP := Aside0.mk hap
        have HCQ := Aside0.mk hcq
        have HMQ := Aside0.mk (mid_chg HM.out HL.out hcq)
        obtain ⟨U2, u2, U3, u3, U4, u4, U6, u6, U7, u7, U8, u8, U9, u9, rfl, _⟩ := k27_open hkq
        have hkind := chg_kind hcq
        have hrng := chg_range hcq
        clear hap hcq hv1 hv2 hkq
        go_wp2_with ((with_reducible refine gate_dst (N := 5) rfl ?_); refine new_event rfl rfl #[.string (⟨#[]⟩ : ByteArray), .int .i64 0, .slice none 0 0, .slice none 0 0, .slice none 0 0, .int .i64 0, .slice none 0 0, .slice none 0 0, .slice none 0 0, .slice none 0 0] #[.string Q.f0, .int .i64 Q.f1, .slice U2 Q.f2.length u2, .slice U3 Q.f3.length u3, .slice U4 Q.f4.length u4, .int .i64 Q.f5, .slice U6 Q.f6.length u6, .slice U7 Q.f7.length u7, .slice U8 Q.f8.length u8, .slice U9 Q.f9.length u9] 27 (by first | (go_simp; done) | (go_simp; rfl)) rfl rfl (.tmp 5) (.tmp 29) rfl (by go_simp) (by first | (go_simp; done) | (go_simp; rfl)) (by kernel_rfl) rfl (by simp [Value.oneCell']) ?_; intro g5 hg5 w5 hb5 hV; refine Halt.go ?_)
        unfold Halt
        clear hg5
        have n_BP := Aside0.mk (blk_below BP.out hV)
        have n_BE := Aside0.mk (blk_below BE.out hV)
        have n_HKP := Aside0.mk (k27.K_below hV HKP.out)
        have n_HKE := Aside0.mk (k32.K_below hV HKE.out)
        have n_HRK := Aside0.mk (k30.K_below hV HRK.out)
        have n_HKQ := Aside0.mk (k27.K_below hV HKQ.out)
        have n_HB := Aside0.mk (HB.out.trans (Below.mono hV HB.out.size))
        clear BP BE HKP HKE HRK HKQ HB
        have BP := n_BP
        have BE := n_BE
        have HKP := n_HKP
        have HKE := n_HKE
        have HRK := n_HRK
        have HKQ := n_HKQ
        have HB := n_HB
        clear n_BP n_BE n_HKP n_HKE n_HRK n_HKQ n_HB
        have BA := Aside0.mk hb5
        clear hV hb5
        rcases hkind with hk | hk | hk | hk | hk | hk
        · skip
          have xBP2 : w5.cell? ⟨g, 2, none⟩ = some (.slice B2 P.f2.length d2) := (blk_cell BP.out 2).trans rfl
          have xBP9 : w5.cell? ⟨g, 9, none⟩ = some (.slice B9 P.f9.length d9) := (blk_cell BP.out 9).trans rfl
          have xBE0 : w5.cell? ⟨g2, 0, none⟩ = some (.int .i64 E.f0) := (blk_cell BE.out 0).trans rfl
          have xBE1 : w5.cell? ⟨g2, 1, none⟩ = some (.int .i64 E.f1) := (blk_cell BE.out 1).trans rfl
          have xBE20 : w5.cell? ⟨g2, 20, none⟩ = some (.int .i64 E.f3) := (blk_cell BE.out 20).trans rfl
          have xBE21 : w5.cell? ⟨g2, 21, none⟩ = some (.string E.f4) := (blk_cell BE.out 21).trans rfl
          have xBA9 : w5.cell? ⟨g5, 9, none⟩ = some (.slice U9 Q.f9.length u9) := (blk_cell BA.out 9).trans rfl
          have k2 : (E.f0 == 2) = false := by rw [hk]; rfl
          have k3 : (E.f0 == 3) = false := by rw [hk]; rfl
          have k4 : (E.f0 == 4) = false := by rw [hk]; rfl
          have k5 : (E.f0 == 5) = false := by rw [hk]; rfl
          have k6 : (E.f0 == 6) = false := by rw [hk]; rfl
          go_wp2_with ((with_reducible refine gate_dst (N := 8) rfl ?_); refine new_event rfl rfl #[.int .i64 0, .int .i64 0, .string (⟨#[]⟩ : ByteArray), .int .i64 0, .int .i64 0, .int .i64 0, .int .i64 0, .int .i64 0, .slice none 0 0, .slice none 0 0, .slice none 0 0, .slice none 0 0, .int .i64 0, .int .i64 0, .slice none 0 0, .int .i64 0, .slice none 0 0, .slice none 0 0, .slice none 0 0, .int .i64 0, .int .i64 0, .string (⟨#[]⟩ : ByteArray)] #[.int .i64 3, .int .i64 P.f9.length, .string (⟨#[]⟩ : ByteArray), .int .i64 0, .int .i64 0, .int .i64 0, .int .i64 0, .int .i64 0, .slice none 0 0, .slice none 0 0, .slice none 0 0, .slice none 0 0, .int .i64 0, .int .i64 0, .slice none 0 0, .int .i64 0, .slice none 0 0, .slice none 0 0, .slice none 0 0, .int .i64 0, .int .i64 0, .string (⟨#[]⟩ : ByteArray)] 32 (by first | (go_simp; done) | (go_simp; rfl)) rfl rfl (.tmp 8) (.tmp 83) rfl (by go_simp) (by first | (go_simp; done) | (go_simp; rfl)) (by kernel_rfl) rfl (by simp [Value.oneCell']) ?_; intro g8 hg8 w6 hb8 hV; refine Halt.go ?_)
          unfold Halt
          have hb8l : w5.heap.size ≤ g8 := by rw [hg8]; exact Nat.le_refl _
          clear hg8 xBP2 xBP9 xBE0 xBE1 xBE20 xBE21 xBA9
          have HV6 := Aside0.mk hV
          have BB := Aside0.mk hb8
          clear hV hb8
          have xBP2 : w6.cell? ⟨g, 2, none⟩ = some (.slice B2 P.f2.length d2) := (blk_cell (blk_below BP.out HV6.out) 2).trans rfl
          have xBP9 : w6.cell? ⟨g, 9, none⟩ = some (.slice B9 P.f9.length d9) := (blk_cell (blk_below BP.out HV6.out) 9).trans rfl
          have xBE0 : w6.cell? ⟨g2, 0, none⟩ = some (.int .i64 E.f0) := (blk_cell (blk_below BE.out HV6.out) 0).trans rfl
          have xBE1 : w6.cell? ⟨g2, 1, none⟩ = some (.int .i64 E.f1) := (blk_cell (blk_below BE.out HV6.out) 1).trans rfl
          have xBE20 : w6.cell? ⟨g2, 20, none⟩ = some (.int .i64 E.f3) := (blk_cell (blk_below BE.out HV6.out) 20).trans rfl
          have xBE21 : w6.cell? ⟨g2, 21, none⟩ = some (.string E.f4) := (blk_cell (blk_below BE.out HV6.out) 21).trans rfl
          have xBA9 : w6.cell? ⟨g5, 9, none⟩ = some (.slice U9 Q.f9.length u9) := (blk_cell (blk_below BA.out HV6.out) 9).trans rfl
          clear xBP2 xBP9 xBE0 xBE1 xBE20 xBE21 xBA9
          have n_BP := Aside0.mk (blk_below BP.out HV6.out)
          have n_BE := Aside0.mk (blk_below BE.out HV6.out)
          have n_BA := Aside0.mk (blk_below BA.out HV6.out)
          have n_HKP := Aside0.mk (k27.K_below HV6.out HKP.out)
          have n_HKE := Aside0.mk (k32.K_below HV6.out HKE.out)
          have n_HRK := Aside0.mk (k30.K_below HV6.out HRK.out)
          have n_HKQ := Aside0.mk (k27.K_below HV6.out HKQ.out)
          have n_HB := Aside0.mk (HB.out.trans (Below.mono HV6.out HB.out.size))
          clear BP BE BA HKP HKE HRK HKQ HB
          have BP := n_BP
          have BE := n_BE
          have BA := n_BA
          have HKP := n_HKP
          have HKE := n_HKE
          have HRK := n_HRK
          have HKQ := n_HKQ
          have HB := n_HB
          clear n_BP n_BE n_BA n_HKP n_HKE n_HRK n_HKQ n_HB
          have xBP2 : w6.cell? ⟨g, 2, none⟩ = some (.slice B2 P.f2.length d2) := (blk_cell BP.out 2).trans rfl
          have xBP9 : w6.cell? ⟨g, 9, none⟩ = some (.slice B9 P.f9.length d9) := (blk_cell BP.out 9).trans rfl
          have xBE0 : w6.cell? ⟨g2, 0, none⟩ = some (.int .i64 E.f0) := (blk_cell BE.out 0).trans rfl
          have xBE1 : w6.cell? ⟨g2, 1, none⟩ = some (.int .i64 E.f1) := (blk_cell BE.out 1).trans rfl
          have xBE20 : w6.cell? ⟨g2, 20, none⟩ = some (.int .i64 E.f3) := (blk_cell BE.out 20).trans rfl
          have xBE21 : w6.cell? ⟨g2, 21, none⟩ = some (.string E.f4) := (blk_cell BE.out 21).trans rfl
          have xBA9 : w6.cell? ⟨g5, 9, none⟩ = some (.slice U9 Q.f9.length u9) := (blk_cell BA.out 9).trans rfl
          have HBK := Aside0.mk (k32_of (x := ⟨3, P.f9.length, z30, 0, ByteArray.empty⟩) (k30_z w6))
          have hab : appl validE Q ⟨3, P.f9.length, z30, 0, ByteArray.empty⟩ = some P := by have := appl_back validE (fun P h => (validE_sorted h).1) z30 HAP.out (by omega); rw [show backOf P z30 E = ⟨3, P.f9.length, z30, 0, ByteArray.empty⟩ from by unfold backOf; rw [if_neg (by omega), if_neg (by omega), if_neg (by omega), if_neg (by omega), if_neg (by omega)]] at this; exact this
          have HAB := Aside0.mk hab
          clear hab
          go_wp2_with (first | ((with_reducible refine gate_dst (N := 149) rfl ?_); (try (refine gate_guard (by rfl) ?_; dsimp only)); refine Kd.event_run rfl (load_run 27 (.tmp 5) rfl ⟨g5, 0, none⟩ (by go_simp) [.string Q.f0, .int .i64 Q.f1, .slice U2 Q.f2.length u2, .slice U3 Q.f3.length u3, .slice U4 Q.f4.length u4, .int .i64 Q.f5, .slice U6 Q.f6.length u6, .slice U7 Q.f7.length u7, .slice U8 Q.f8.length u8, .slice U9 Q.f9.length u9] (fun w => Tryd.sizeOf27 w) Tryd.isAgg27 (blk_list BA.out)) ?_) | ((with_reducible refine gate_dst (N := 150) rfl ?_); (try (refine gate_guard (by rfl) ?_; dsimp only)); refine Kd.event_run rfl (load_run 32 (.tmp 8) rfl ⟨g8, 0, none⟩ (by go_simp) [.int .i64 3, .int .i64 P.f9.length, .string (⟨#[]⟩ : ByteArray), .int .i64 0, .int .i64 0, .int .i64 0, .int .i64 0, .int .i64 0, .slice none 0 0, .slice none 0 0, .slice none 0 0, .slice none 0 0, .int .i64 0, .int .i64 0, .slice none 0 0, .int .i64 0, .slice none 0 0, .slice none 0 0, .slice none 0 0, .int .i64 0, .int .i64 0, .string (⟨#[]⟩ : ByteArray)] (fun w => Tryd.sizeOf32 w) Tryd.isAgg32 (blk_list BB.out)) ?_))
          clear xBP2 xBP9 xBE0 xBE1 xBE20 xBE21 xBA9
          refine (apply_any Q ⟨3, P.f9.length, z30, 0, ByteArray.empty⟩ _ _ w6 1 (Glob_below HG.out HB.out) HKQ.out HBK.out HMQ.out (by decide) short_z30).mono ?_
          rintro e wa ⟨k, qs, rfl, hV, hm⟩
          have n_BP := Aside0.mk (blk_below BP.out hV)
          have n_BE := Aside0.mk (blk_below BE.out hV)
          have n_BA := Aside0.mk (blk_below BA.out hV)
          have n_BB := Aside0.mk (blk_below BB.out hV)
          have n_HKP := Aside0.mk (k27.K_below hV HKP.out)
          have n_HKE := Aside0.mk (k32.K_below hV HKE.out)
          have n_HRK := Aside0.mk (k30.K_below hV HRK.out)
          have n_HKQ := Aside0.mk (k27.K_below hV HKQ.out)
          have n_HB := Aside0.mk (HB.out.trans (Below.mono hV HB.out.size))
          clear BP BE BA BB HKP HKE HRK HKQ HB
          have BP := n_BP
          have BE := n_BE
          have BA := n_BA
          have BB := n_BB
          have HKP := n_HKP
          have HKE := n_HKE
          have HRK := n_HRK
          have HKQ := n_HKQ
          have HB := n_HB
          clear n_BP n_BE n_BA n_BB n_HKP n_HKE n_HRK n_HKQ n_HB
          rw [HAB.out] at hm
          obtain ⟨rfl, hkt⟩ := hm
          have HKT := Aside0.mk hkt
          obtain ⟨T2, t2, T3, t3, T4, t4, T6, t6, T7, t7, T8, t8, T9, t9, rfl, _⟩ := k27_open hkt
          clear hV hkt
          go_wp2_with ((with_reducible refine gate_dst (N := 9) rfl ?_); refine new_event rfl rfl #[.string (⟨#[]⟩ : ByteArray), .int .i64 0, .slice none 0 0, .slice none 0 0, .slice none 0 0, .int .i64 0, .slice none 0 0, .slice none 0 0, .slice none 0 0, .slice none 0 0] #[.string P.f0, .int .i64 P.f1, .slice T2 P.f2.length t2, .slice T3 P.f3.length t3, .slice T4 P.f4.length t4, .int .i64 P.f5, .slice T6 P.f6.length t6, .slice T7 P.f7.length t7, .slice T8 P.f8.length t8, .slice T9 P.f9.length t9] 27 (by first | (go_simp; done) | (go_simp; rfl)) rfl rfl (.tmp 9) (.tmp 152) rfl (by go_simp) (by first | (go_simp; done) | (go_simp; rfl)) (by kernel_rfl) rfl (by simp [Value.oneCell']) ?_; intro g9 hg9 wb hb9 hV; refine Halt.go ?_)
          unfold Halt
          clear hg9
          have n_BP := Aside0.mk (blk_below BP.out hV)
          have n_BE := Aside0.mk (blk_below BE.out hV)
          have n_BA := Aside0.mk (blk_below BA.out hV)
          have n_BB := Aside0.mk (blk_below BB.out hV)
          have n_HKP := Aside0.mk (k27.K_below hV HKP.out)
          have n_HKE := Aside0.mk (k32.K_below hV HKE.out)
          have n_HRK := Aside0.mk (k30.K_below hV HRK.out)
          have n_HKQ := Aside0.mk (k27.K_below hV HKQ.out)
          have n_HKT := Aside0.mk (k27.K_below hV HKT.out)
          have n_HB := Aside0.mk (HB.out.trans (Below.mono hV HB.out.size))
          clear BP BE BA BB HKP HKE HRK HKQ HKT HB
          have BP := n_BP
          have BE := n_BE
          have BA := n_BA
          have BB := n_BB
          have HKP := n_HKP
          have HKE := n_HKE
          have HRK := n_HRK
          have HKQ := n_HKQ
          have HKT := n_HKT
          have HB := n_HB
          clear n_BP n_BE n_BA n_BB n_HKP n_HKE n_HRK n_HKQ n_HKT n_HB
          have BT := Aside0.mk hb9
          clear hV hb9
          go_wp2_with (first | ((with_reducible refine gate_dst (N := 157) rfl ?_); (try (refine gate_guard (by rfl) ?_; dsimp only)); refine Kd.event_run rfl (load_run 27 (.tmp 9) rfl ⟨g9, 0, none⟩ (by go_simp) [.string P.f0, .int .i64 P.f1, .slice T2 P.f2.length t2, .slice T3 P.f3.length t3, .slice T4 P.f4.length t4, .int .i64 P.f5, .slice T6 P.f6.length t6, .slice T7 P.f7.length t7, .slice T8 P.f8.length t8, .slice T9 P.f9.length t9] (fun w => Tryd.sizeOf27 w) Tryd.isAgg27 (blk_list BT.out)) ?_) | ((with_reducible refine gate_dst (N := 158) rfl ?_); (try (refine gate_guard (by rfl) ?_; dsimp only)); refine Kd.event_run rfl (load_run 27 (.tmp 2) rfl ⟨g, 0, none⟩ (by go_simp) [.string P.f0, .int .i64 P.f1, .slice B2 P.f2.length d2, .slice B3 P.f3.length d3, .slice B4 P.f4.length d4, .int .i64 P.f5, .slice B6 P.f6.length d6, .slice B7 P.f7.length d7, .slice B8 P.f8.length d8, .slice B9 P.f9.length d9] (fun w => Tryd.sizeOf27 w) Tryd.isAgg27 (blk_list BP.out)) ?_))
          refine (equal_weak P P _ _ wb HKT.out HKP.out).mono ?_
          rintro e wc ⟨b, rfl, hbt, hV⟩
          have n_BP := Aside0.mk (blk_below BP.out hV)
          have n_BE := Aside0.mk (blk_below BE.out hV)
          have n_BA := Aside0.mk (blk_below BA.out hV)
          have n_BB := Aside0.mk (blk_below BB.out hV)
          have n_BT := Aside0.mk (blk_below BT.out hV)
          have n_HKP := Aside0.mk (k27.K_below hV HKP.out)
          have n_HKE := Aside0.mk (k32.K_below hV HKE.out)
          have n_HRK := Aside0.mk (k30.K_below hV HRK.out)
          have n_HKQ := Aside0.mk (k27.K_below hV HKQ.out)
          have n_HKT := Aside0.mk (k27.K_below hV HKT.out)
          have n_HB := Aside0.mk (HB.out.trans (Below.mono hV HB.out.size))
          clear BP BE BA BB BT HKP HKE HRK HKQ HKT HB
          have BP := n_BP
          have BE := n_BE
          have BA := n_BA
          have BB := n_BB
          have BT := n_BT
          have HKP := n_HKP
          have HKE := n_HKE
          have HRK := n_HRK
          have HKQ := n_HKQ
          have HKT := n_HKT
          have HB := n_HB
          clear n_BP n_BE n_BA n_BB n_BT n_HKP n_HKE n_HRK n_HKQ n_HKT n_HB
          obtain rfl := hbt rfl
          clear hV hbt
          go_wp2_with fail
          refine (known_any _ (Glob_below HG.out HB.out)).mono ?_
          rintro e wz ⟨rfl, hz⟩
          have hBz := HB.out.trans (Below.mono hz HB.out.size)
          go_wp2_with fail
          go_ret
          exact ⟨rfl, hBz⟩
        · skip
          have xBP2 : w5.cell? ⟨g, 2, none⟩ = some (.slice B2 P.f2.length d2) := (blk_cell BP.out 2).trans rfl
          have xBP9 : w5.cell? ⟨g, 9, none⟩ = some (.slice B9 P.f9.length d9) := (blk_cell BP.out 9).trans rfl
          have xBE0 : w5.cell? ⟨g2, 0, none⟩ = some (.int .i64 E.f0) := (blk_cell BE.out 0).trans rfl
          have xBE1 : w5.cell? ⟨g2, 1, none⟩ = some (.int .i64 E.f1) := (blk_cell BE.out 1).trans rfl
          have xBE20 : w5.cell? ⟨g2, 20, none⟩ = some (.int .i64 E.f3) := (blk_cell BE.out 20).trans rfl
          have xBE21 : w5.cell? ⟨g2, 21, none⟩ = some (.string E.f4) := (blk_cell BE.out 21).trans rfl
          have xBA9 : w5.cell? ⟨g5, 9, none⟩ = some (.slice U9 Q.f9.length u9) := (blk_cell BA.out 9).trans rfl
          have k2 : (E.f0 == 2) = true := by rw [hk]; rfl
          have k3 : (E.f0 == 3) = false := by rw [hk]; rfl
          have k4 : (E.f0 == 4) = false := by rw [hk]; rfl
          have k5 : (E.f0 == 5) = false := by rw [hk]; rfl
          have k6 : (E.f0 == 6) = false := by rw [hk]; rfl
          obtain ⟨hr0, hr1⟩ := hrng.1 (by omega)
          have dd1 : decide (E.f1 < 0) = false := decide_eq_false (by omega)
          have dd2 : decide ((P.f9.length : Int) ≤ E.f1) = false := decide_eq_false (by omega)
          go_wp2_with ((with_reducible refine gate_dst (N := 8) rfl ?_); refine new_event rfl rfl #[.int .i64 0, .int .i64 0, .string (⟨#[]⟩ : ByteArray), .int .i64 0, .int .i64 0, .int .i64 0, .int .i64 0, .int .i64 0, .slice none 0 0, .slice none 0 0, .slice none 0 0, .slice none 0 0, .int .i64 0, .int .i64 0, .slice none 0 0, .int .i64 0, .slice none 0 0, .slice none 0 0, .slice none 0 0, .int .i64 0, .int .i64 0, .string (⟨#[]⟩ : ByteArray)] #[.int .i64 3, .int .i64 P.f9.length, .string (⟨#[]⟩ : ByteArray), .int .i64 0, .int .i64 0, .int .i64 0, .int .i64 0, .int .i64 0, .slice none 0 0, .slice none 0 0, .slice none 0 0, .slice none 0 0, .int .i64 0, .int .i64 0, .slice none 0 0, .int .i64 0, .slice none 0 0, .slice none 0 0, .slice none 0 0, .int .i64 0, .int .i64 0, .string (⟨#[]⟩ : ByteArray)] 32 (by first | (go_simp; done) | (go_simp; rfl)) rfl rfl (.tmp 8) (.tmp 83) rfl (by go_simp) (by first | (go_simp; done) | (go_simp; rfl)) (by kernel_rfl) rfl (by simp [Value.oneCell']) ?_; intro g8 hg8 w6 hb8 hV; refine Halt.go ?_)
          unfold Halt
          have hb8l : w5.heap.size ≤ g8 := by rw [hg8]; exact Nat.le_refl _
          clear hg8 xBP2 xBP9 xBE0 xBE1 xBE20 xBE21 xBA9
          have HV6 := Aside0.mk hV
          have BB := Aside0.mk hb8
          clear hV hb8
          have xBP2 : w6.cell? ⟨g, 2, none⟩ = some (.slice B2 P.f2.length d2) := (blk_cell (blk_below BP.out HV6.out) 2).trans rfl
          have xBP9 : w6.cell? ⟨g, 9, none⟩ = some (.slice B9 P.f9.length d9) := (blk_cell (blk_below BP.out HV6.out) 9).trans rfl
          have xBE0 : w6.cell? ⟨g2, 0, none⟩ = some (.int .i64 E.f0) := (blk_cell (blk_below BE.out HV6.out) 0).trans rfl
          have xBE1 : w6.cell? ⟨g2, 1, none⟩ = some (.int .i64 E.f1) := (blk_cell (blk_below BE.out HV6.out) 1).trans rfl
          have xBE20 : w6.cell? ⟨g2, 20, none⟩ = some (.int .i64 E.f3) := (blk_cell (blk_below BE.out HV6.out) 20).trans rfl
          have xBE21 : w6.cell? ⟨g2, 21, none⟩ = some (.string E.f4) := (blk_cell (blk_below BE.out HV6.out) 21).trans rfl
          have xBA9 : w6.cell? ⟨g5, 9, none⟩ = some (.slice U9 Q.f9.length u9) := (blk_cell (blk_below BA.out HV6.out) 9).trans rfl
          have hrn : E.f1.toNat < P.f9.length := by omega
          obtain ⟨ad, cr, hB9, hKr, hn, hX⟩ := at_rule (Kd.C_below G9.out HB.out) E.f1.toNat hrn
          subst hB9
          have hSR := Aside0.mk (mid_get HM.out E.f1.toNat hrn)
          obtain ⟨R, hR⟩ : ∃ R, R = P.f9.getD E.f1.toNat z30 := ⟨_, rfl⟩
          rw [← hR] at hKr hSR
          have HR := Aside0.mk hR
          have HKR := Aside0.mk hKr
          obtain ⟨C6, q6, C7, q7, C8, q8, C9, q9, C12, q12, C14, q14, C15, q15, C16, q16, rfl, _⟩ := k30_open hKr
          have HX : Aside0 (∀ j v, ([.string R.f0, .int .i64 R.f1, .int .i64 R.f2, .int .i64 R.f3, .int .i64 R.f4, .int .i64 R.f5, .slice C6 R.f6.length q6, .slice C7 R.f7.length q7, .slice C8 R.f8.length q8, .slice C9 R.f9.length q9, .int .i64 R.f10, .int .i64 R.f11, .slice C12 R.f12.length q12, .int .i64 R.f13, .slice C14 R.f14.length q14, .slice C15 R.f15.length q15, .slice C16 R.f16.length q16, .int .i64 R.f17] : List Value)[j]? = some v → w6.cell? ((ad.add (E.f1.toNat * 18)).add j) = some v) := ⟨fun j v hj => (HV6.out.cell (World.block_lt_of_cell? _ _ (hX j v hj))).trans (hX j v hj)⟩
          clear hKr hn hX hR
          have rX : Aside0 (∀ j v, ([.string R.f0, .int .i64 R.f1, .int .i64 R.f2, .int .i64 R.f3, .int .i64 R.f4, .int .i64 R.f5, .slice C6 R.f6.length q6, .slice C7 R.f7.length q7, .slice C8 R.f8.length q8, .slice C9 R.f9.length q9, .int .i64 R.f10, .int .i64 R.f11, .slice C12 R.f12.length q12, .int .i64 R.f13, .slice C14 R.f14.length q14, .slice C15 R.f15.length q15, .slice C16 R.f16.length q16, .int .i64 R.f17] : List Value)[j]? = some v → w6.drew.cell? ((ad.add (E.f1.toNat * 18)).add j) = some v) := ⟨fun j v hj => HX.out j v hj⟩
          go_upto_region 11 with (fail)
          refine start_ (n := 10) (S := fun w' => w'.cell? ⟨g, 9, none⟩ = some (.slice (some ad) P.f9.length d9) ∧ w'.cell? ⟨g2, 1, none⟩ = some (.int .i64 E.f1)) (ds := [9]) #[false, false, false, false, false, false, false, false, false, false] (by kernel_rfl) rfl rfl ⟨xBP9, xBE1⟩ (fun hHeld => ?_)
          refine with_tabW back.tab11 back.bits11 (fun HT_ HW_ => ?_)
          refine pure_ (i := 0) (N := some 87) (v := ?_) (a' := ?_) #[true, false, false, false, false, false, false, false, false, false] rfl rfl (any_of HT_.out (by kernel_rfl)) (fun _ _ _ h => h) (Or.inl ⟨by rfl, ?_⟩) ?_ ?_
          rotate_left
          · intro w'
            go_simp
            with_reducible rfl
          rotate_left
          · simp only [Act.put, List.setIfInBounds_toArray, List.set_cons_zero, List.set_cons_succ, i64_w, i32_w]
            rfl
          refine pure_ (i := 2) (N := some 89) (v := ?_) (a' := ?_) #[true, false, true, false, false, false, false, false, false, false] rfl rfl (any_of HT_.out (by kernel_rfl)) (fun _ _ _ h => h) (Or.inl ⟨by rfl, ?_⟩) ?_ ?_
          rotate_left
          · intro w'
            go_simp
            with_reducible rfl
          rotate_left
          · simp only [Act.put, List.setIfInBounds_toArray, List.set_cons_zero, List.set_cons_succ, i64_w, i32_w]
            rfl
          refine pure_ (i := 4) (N := some 91) (v := ?_) (a' := ?_) #[true, false, true, false, true, false, false, false, false, false] rfl rfl (any_of HT_.out (by kernel_rfl)) (fun _ _ _ h => h) (Or.inl ⟨by rfl, ?_⟩) ?_ ?_
          rotate_left
          · intro w'
            go_simp
            with_reducible rfl
          rotate_left
          · simp only [Act.put, List.setIfInBounds_toArray, List.set_cons_zero, List.set_cons_succ, i64_w, i32_w]
            rfl
          refine take_ (i := 1) (N := some 88) (v := ?_) (a' := ?_) #[true, true, true, false, true, false, false, false, false, false] rfl rfl (take_ofW HT_.out HW_.out (by kernel_rfl)) (fun _ _ _ h => h) (Or.inl ⟨by rfl, ?_⟩) hHeld ?_ ?_
          rotate_left
          · rintro w' ⟨s0, s1⟩
            go_simp
            with_reducible rfl
          rotate_left
          · simp only [Act.put, List.setIfInBounds_toArray, List.set_cons_zero, List.set_cons_succ, i64_w, i32_w]
            rfl
          refine take_ (i := 3) (N := some 90) (v := ?_) (a' := ?_) #[true, true, true, true, true, false, false, false, false, false] rfl rfl (take_ofW HT_.out HW_.out (by kernel_rfl)) (fun _ _ _ h => h) (Or.inl ⟨by rfl, ?_⟩) hHeld ?_ ?_
          rotate_left
          · rintro w' ⟨s0, s1⟩
            go_simp
            with_reducible rfl
          rotate_left
          · simp only [Act.put, List.setIfInBounds_toArray, List.set_cons_zero, List.set_cons_succ, i64_w, i32_w]
            rfl
          refine take_ (i := 5) (N := some 92) (v := ?_) (a' := ?_) #[true, true, true, true, true, true, false, false, false, false] rfl rfl (take_ofW HT_.out HW_.out (by kernel_rfl)) (fun _ _ _ h => h) (Or.inl ⟨by rfl, ?_⟩) hHeld ?_ ?_
          rotate_left
          · rintro w' ⟨s0, s1⟩
            go_simp
            with_reducible rfl
          rotate_left
          · simp only [Act.put, List.setIfInBounds_toArray, List.set_cons_zero, List.set_cons_succ, i64_w, i32_w]
            rfl
          refine pure_ (i := 6) (N := some 93) (v := ?_) (a' := ?_) #[true, true, true, true, true, true, true, false, false, false] rfl rfl (any_of HT_.out (by kernel_rfl)) (fun _ _ _ h => h) (Or.inl ⟨by rfl, ?_⟩) ?_ ?_
          rotate_left
          · intro w'
            go_simp
            with_reducible rfl
          rotate_left
          · simp only [Act.put, List.setIfInBounds_toArray, List.set_cons_zero, List.set_cons_succ, i64_w, i32_w]
            rfl
          refine one_ (i := 7) (N := some 94) #[true, true, true, true, true, true, true, true, false, false] rfl rfl (one_of HT_.out (by kernel_rfl)) (by decide) (fun K hK => ?_)
          refine value_ (w1 := _) (v := .agg #[.string R.f0, .int .i64 R.f1, .int .i64 R.f2, .int .i64 R.f3, .int .i64 R.f4, .int .i64 R.f5, .slice C6 R.f6.length q6, .slice C7 R.f7.length q7, .slice C8 R.f8.length q8, .slice C9 R.f9.length q9, .int .i64 R.f10, .int .i64 R.f11, .slice C12 R.f12.length q12, .int .i64 R.f13, .slice C14 R.f14.length q14, .slice C15 R.f15.length q15, .slice C16 R.f16.length q16, .int .i64 R.f17]) (by rfl) rfl (load_run 30 (.tmp 93) rfl (ad.add (E.f1.toNat * 18)) (by go_simp) [.string R.f0, .int .i64 R.f1, .int .i64 R.f2, .int .i64 R.f3, .int .i64 R.f4, .int .i64 R.f5, .slice C6 R.f6.length q6, .slice C7 R.f7.length q7, .slice C8 R.f8.length q8, .slice C9 R.f9.length q9, .int .i64 R.f10, .int .i64 R.f11, .slice C12 R.f12.length q12, .int .i64 R.f13, .slice C14 R.f14.length q14, .slice C15 R.f15.length q15, .slice C16 R.f16.length q16, .int .i64 R.f17] (fun w => Tryd.sizeOf30 w) Tryd.isAgg30 rX.out) ?_
          refine hK.out _ _ ⟨xBP9, xBE1⟩ (fun hHeld => ?_)
          clear hK K
          refine norm_ (a' := ?_) ?_ ?_
          rotate_left
          · show Act.put _ (some 94) _ = _
            simp only [Act.put, List.setIfInBounds_toArray, List.set_cons_zero, List.set_cons_succ, i64_w, i32_w]
            rfl
          refine pure_ (i := 8) (N := some 95) (v := ?_) (a' := ?_) #[true, true, true, true, true, true, true, true, true, false] rfl rfl (any_of HT_.out (by kernel_rfl)) (fun _ _ _ h => h) (Or.inl ⟨by rfl, ?_⟩) ?_ ?_
          rotate_left
          · intro w'
            go_simp
            with_reducible rfl
          rotate_left
          · simp only [Act.put, List.setIfInBounds_toArray, List.set_cons_zero, List.set_cons_succ, i64_w, i32_w]
            rfl
          refine last_ (i := 9) (N := none) #[true, true, true, true, true, true, true, true, true, true] rfl rfl (one_of HT_.out (by kernel_rfl)) (by decide) (fun K hK => ?_)
          refine skip_ (w1 := w6.drew.setCells g8 0 [.int .i64 2, .int .i64 E.f1, .string R.f0, .int .i64 R.f1, .int .i64 R.f2, .int .i64 R.f3, .int .i64 R.f4, .int .i64 R.f5, .slice C6 R.f6.length q6, .slice C7 R.f7.length q7, .slice C8 R.f8.length q8, .slice C9 R.f9.length q9, .int .i64 R.f10, .int .i64 R.f11, .slice C12 R.f12.length q12, .int .i64 R.f13, .slice C14 R.f14.length q14, .slice C15 R.f15.length q15, .slice C16 R.f16.length q16, .int .i64 R.f17, .int .i64 0, .string (⟨#[]⟩ : ByteArray)]) (by rfl) rfl (store_run 32 (.tmp 8) (.tmp 95) rfl g8 0 #[.int .i64 2, .int .i64 E.f1, .string R.f0, .int .i64 R.f1, .int .i64 R.f2, .int .i64 R.f3, .int .i64 R.f4, .int .i64 R.f5, .slice C6 R.f6.length q6, .slice C7 R.f7.length q7, .slice C8 R.f8.length q8, .slice C9 R.f9.length q9, .int .i64 R.f10, .int .i64 R.f11, .slice C12 R.f12.length q12, .int .i64 R.f13, .slice C14 R.f14.length q14, .slice C15 R.f15.length q15, .slice C16 R.f16.length q16, .int .i64 R.f17, .int .i64 0, .string (⟨#[]⟩ : ByteArray)] ?kx ?ky (fun j hj => ?kt) (by kernel_rfl) (by simp [Value.oneCell'])) ?_
          case kx => go_simp
          case ky => first | (go_simp; done) | (go_simp; rfl)
          case kt => rw [Nat.zero_add]; have hj2 : j < (#[.int .i64 3, .int .i64 P.f9.length, .string (⟨#[]⟩ : ByteArray), .int .i64 0, .int .i64 0, .int .i64 0, .int .i64 0, .int .i64 0, .slice none 0 0, .slice none 0 0, .slice none 0 0, .slice none 0 0, .int .i64 0, .int .i64 0, .slice none 0 0, .int .i64 0, .slice none 0 0, .slice none 0 0, .slice none 0 0, .int .i64 0, .int .i64 0, .string (⟨#[]⟩ : ByteArray)] : Array Value).size := hj; exact ⟨by rw [blk_cell (blk_drew BB.out) j, Array.getElem?_eq_getElem hj2]; rfl, blk_frozen (blk_drew BB.out) j⟩
          refine hK.out _ _ ?_
          clear hK K
          refine done_ (done_of HT_.out (by kernel_rfl)) ?_
          obtain ⟨hb7, hm7, hB7⟩ := sets_all (cs := #[.int .i64 2, .int .i64 E.f1, .string R.f0, .int .i64 R.f1, .int .i64 R.f2, .int .i64 R.f3, .int .i64 R.f4, .int .i64 R.f5, .slice C6 R.f6.length q6, .slice C7 R.f7.length q7, .slice C8 R.f8.length q8, .slice C9 R.f9.length q9, .int .i64 R.f10, .int .i64 R.f11, .slice C12 R.f12.length q12, .int .i64 R.f13, .slice C14 R.f14.length q14, .slice C15 R.f15.length q15, .slice C16 R.f16.length q16, .int .i64 R.f17, .int .i64 0, .string (⟨#[]⟩ : ByteArray)]) (blk_drew BB.out) rfl
          obtain ⟨w7, hw7⟩ : ∃ w7, w7 = w6.drew.setCells g8 0 [.int .i64 2, .int .i64 E.f1, .string R.f0, .int .i64 R.f1, .int .i64 R.f2, .int .i64 R.f3, .int .i64 R.f4, .int .i64 R.f5, .slice C6 R.f6.length q6, .slice C7 R.f7.length q7, .slice C8 R.f8.length q8, .slice C9 R.f9.length q9, .int .i64 R.f10, .int .i64 R.f11, .slice C12 R.f12.length q12, .int .i64 R.f13, .slice C14 R.f14.length q14, .slice C15 R.f15.length q15, .slice C16 R.f16.length q16, .int .i64 R.f17, .int .i64 0, .string (⟨#[]⟩ : ByteArray)] := ⟨_, rfl⟩
          skip
          have hb7 : w7.heap[g8]? = some (.cells #[.int .i64 2, .int .i64 E.f1, .string R.f0, .int .i64 R.f1, .int .i64 R.f2, .int .i64 R.f3, .int .i64 R.f4, .int .i64 R.f5, .slice C6 R.f6.length q6, .slice C7 R.f7.length q7, .slice C8 R.f8.length q8, .slice C9 R.f9.length q9, .int .i64 R.f10, .int .i64 R.f11, .slice C12 R.f12.length q12, .int .i64 R.f13, .slice C14 R.f14.length q14, .slice C15 R.f15.length q15, .slice C16 R.f16.length q16, .int .i64 R.f17, .int .i64 0, .string (⟨#[]⟩ : ByteArray)] 32 (0, 0)) := by rw [hw7]; exact hb7
          have HV7 : Aside0 (Below w5.heap.size w5 w7) := ⟨by rw [hw7]; exact hB7 _ _ HV6.out.drew hb8l⟩
          rw [← hw7]
          clear BB hm7 hB7 hw7 rX xBP2 xBP9 xBE0 xBE1 xBE20 xBE21 xBA9
          have BB := Aside0.mk hb7
          clear hb7
          have n_BP := Aside0.mk (blk_below BP.out HV7.out)
          have n_BE := Aside0.mk (blk_below BE.out HV7.out)
          have n_BA := Aside0.mk (blk_below BA.out HV7.out)
          have n_HKP := Aside0.mk (k27.K_below HV7.out HKP.out)
          have n_HKE := Aside0.mk (k32.K_below HV7.out HKE.out)
          have n_HRK := Aside0.mk (k30.K_below HV7.out HRK.out)
          have n_HKQ := Aside0.mk (k27.K_below HV7.out HKQ.out)
          have n_HB := Aside0.mk (HB.out.trans (Below.mono HV7.out HB.out.size))
          clear BP BE BA HKP HKE HRK HKQ HB
          have BP := n_BP
          have BE := n_BE
          have BA := n_BA
          have HKP := n_HKP
          have HKE := n_HKE
          have HRK := n_HRK
          have HKQ := n_HKQ
          have HB := n_HB
          clear n_BP n_BE n_BA n_HKP n_HKE n_HRK n_HKQ n_HB
          have xBP2 : w7.cell? ⟨g, 2, none⟩ = some (.slice B2 P.f2.length d2) := (blk_cell BP.out 2).trans rfl
          have xBP9 : w7.cell? ⟨g, 9, none⟩ = some (.slice (some ad) P.f9.length d9) := (blk_cell BP.out 9).trans rfl
          have xBE0 : w7.cell? ⟨g2, 0, none⟩ = some (.int .i64 E.f0) := (blk_cell BE.out 0).trans rfl
          have xBE1 : w7.cell? ⟨g2, 1, none⟩ = some (.int .i64 E.f1) := (blk_cell BE.out 1).trans rfl
          have xBE20 : w7.cell? ⟨g2, 20, none⟩ = some (.int .i64 E.f3) := (blk_cell BE.out 20).trans rfl
          have xBE21 : w7.cell? ⟨g2, 21, none⟩ = some (.string E.f4) := (blk_cell BE.out 21).trans rfl
          have xBA9 : w7.cell? ⟨g5, 9, none⟩ = some (.slice U9 Q.f9.length u9) := (blk_cell BA.out 9).trans rfl
          have HBK := Aside0.mk (k32_of (x := ⟨2, E.f1, R, 0, ByteArray.empty⟩) (k30.K_below HV7.out HKR.out))
          have hab : appl validE Q ⟨2, E.f1, R, 0, ByteArray.empty⟩ = some P := by have := appl_back validE (fun P h => (validE_sorted h).1) z30 HAP.out (by omega); rw [show backOf P z30 E = ⟨2, E.f1, R, 0, ByteArray.empty⟩ from by unfold backOf; rw [if_pos (by omega), ← HR.out]] at this; exact this
          have HAB := Aside0.mk hab
          clear hab
          go_wp2_with (first | ((with_reducible refine gate_dst (N := 149) rfl ?_); (try (refine gate_guard (by rfl) ?_; dsimp only)); refine Kd.event_run rfl (load_run 27 (.tmp 5) rfl ⟨g5, 0, none⟩ (by go_simp) [.string Q.f0, .int .i64 Q.f1, .slice U2 Q.f2.length u2, .slice U3 Q.f3.length u3, .slice U4 Q.f4.length u4, .int .i64 Q.f5, .slice U6 Q.f6.length u6, .slice U7 Q.f7.length u7, .slice U8 Q.f8.length u8, .slice U9 Q.f9.length u9] (fun w => Tryd.sizeOf27 w) Tryd.isAgg27 (blk_list BA.out)) ?_) | ((with_reducible refine gate_dst (N := 150) rfl ?_); (try (refine gate_guard (by rfl) ?_; dsimp only)); refine Kd.event_run rfl (load_run 32 (.tmp 8) rfl ⟨g8, 0, none⟩ (by go_simp) [.int .i64 2, .int .i64 E.f1, .string R.f0, .int .i64 R.f1, .int .i64 R.f2, .int .i64 R.f3, .int .i64 R.f4, .int .i64 R.f5, .slice C6 R.f6.length q6, .slice C7 R.f7.length q7, .slice C8 R.f8.length q8, .slice C9 R.f9.length q9, .int .i64 R.f10, .int .i64 R.f11, .slice C12 R.f12.length q12, .int .i64 R.f13, .slice C14 R.f14.length q14, .slice C15 R.f15.length q15, .slice C16 R.f16.length q16, .int .i64 R.f17, .int .i64 0, .string (⟨#[]⟩ : ByteArray)] (fun w => Tryd.sizeOf32 w) Tryd.isAgg32 (blk_list BB.out)) ?_))
          clear xBP2 xBP9 xBE0 xBE1 xBE20 xBE21 xBA9
          refine (apply_any Q ⟨2, E.f1, R, 0, ByteArray.empty⟩ _ _ w7 1 (Glob_below HG.out HB.out) HKQ.out HBK.out HMQ.out (by decide) hSR.out).mono ?_
          rintro e wa ⟨k, qs, rfl, hV, hm⟩
          have n_BP := Aside0.mk (blk_below BP.out hV)
          have n_BE := Aside0.mk (blk_below BE.out hV)
          have n_BA := Aside0.mk (blk_below BA.out hV)
          have n_BB := Aside0.mk (blk_below BB.out hV)
          have n_HKP := Aside0.mk (k27.K_below hV HKP.out)
          have n_HKE := Aside0.mk (k32.K_below hV HKE.out)
          have n_HRK := Aside0.mk (k30.K_below hV HRK.out)
          have n_HKQ := Aside0.mk (k27.K_below hV HKQ.out)
          have n_HB := Aside0.mk (HB.out.trans (Below.mono hV HB.out.size))
          clear BP BE BA BB HKP HKE HRK HKQ HB
          have BP := n_BP
          have BE := n_BE
          have BA := n_BA
          have BB := n_BB
          have HKP := n_HKP
          have HKE := n_HKE
          have HRK := n_HRK
          have HKQ := n_HKQ
          have HB := n_HB
          clear n_BP n_BE n_BA n_BB n_HKP n_HKE n_HRK n_HKQ n_HB
          rw [HAB.out] at hm
          obtain ⟨rfl, hkt⟩ := hm
          have HKT := Aside0.mk hkt
          obtain ⟨T2, t2, T3, t3, T4, t4, T6, t6, T7, t7, T8, t8, T9, t9, rfl, _⟩ := k27_open hkt
          clear hV hkt
          go_wp2_with ((with_reducible refine gate_dst (N := 9) rfl ?_); refine new_event rfl rfl #[.string (⟨#[]⟩ : ByteArray), .int .i64 0, .slice none 0 0, .slice none 0 0, .slice none 0 0, .int .i64 0, .slice none 0 0, .slice none 0 0, .slice none 0 0, .slice none 0 0] #[.string P.f0, .int .i64 P.f1, .slice T2 P.f2.length t2, .slice T3 P.f3.length t3, .slice T4 P.f4.length t4, .int .i64 P.f5, .slice T6 P.f6.length t6, .slice T7 P.f7.length t7, .slice T8 P.f8.length t8, .slice T9 P.f9.length t9] 27 (by first | (go_simp; done) | (go_simp; rfl)) rfl rfl (.tmp 9) (.tmp 152) rfl (by go_simp) (by first | (go_simp; done) | (go_simp; rfl)) (by kernel_rfl) rfl (by simp [Value.oneCell']) ?_; intro g9 hg9 wb hb9 hV; refine Halt.go ?_)
          unfold Halt
          clear hg9
          have n_BP := Aside0.mk (blk_below BP.out hV)
          have n_BE := Aside0.mk (blk_below BE.out hV)
          have n_BA := Aside0.mk (blk_below BA.out hV)
          have n_BB := Aside0.mk (blk_below BB.out hV)
          have n_HKP := Aside0.mk (k27.K_below hV HKP.out)
          have n_HKE := Aside0.mk (k32.K_below hV HKE.out)
          have n_HRK := Aside0.mk (k30.K_below hV HRK.out)
          have n_HKQ := Aside0.mk (k27.K_below hV HKQ.out)
          have n_HKT := Aside0.mk (k27.K_below hV HKT.out)
          have n_HB := Aside0.mk (HB.out.trans (Below.mono hV HB.out.size))
          clear BP BE BA BB HKP HKE HRK HKQ HKT HB
          have BP := n_BP
          have BE := n_BE
          have BA := n_BA
          have BB := n_BB
          have HKP := n_HKP
          have HKE := n_HKE
          have HRK := n_HRK
          have HKQ := n_HKQ
          have HKT := n_HKT
          have HB := n_HB
          clear n_BP n_BE n_BA n_BB n_HKP n_HKE n_HRK n_HKQ n_HKT n_HB
          have BT := Aside0.mk hb9
          clear hV hb9
          go_wp2_with (first | ((with_reducible refine gate_dst (N := 157) rfl ?_); (try (refine gate_guard (by rfl) ?_; dsimp only)); refine Kd.event_run rfl (load_run 27 (.tmp 9) rfl ⟨g9, 0, none⟩ (by go_simp) [.string P.f0, .int .i64 P.f1, .slice T2 P.f2.length t2, .slice T3 P.f3.length t3, .slice T4 P.f4.length t4, .int .i64 P.f5, .slice T6 P.f6.length t6, .slice T7 P.f7.length t7, .slice T8 P.f8.length t8, .slice T9 P.f9.length t9] (fun w => Tryd.sizeOf27 w) Tryd.isAgg27 (blk_list BT.out)) ?_) | ((with_reducible refine gate_dst (N := 158) rfl ?_); (try (refine gate_guard (by rfl) ?_; dsimp only)); refine Kd.event_run rfl (load_run 27 (.tmp 2) rfl ⟨g, 0, none⟩ (by go_simp) [.string P.f0, .int .i64 P.f1, .slice B2 P.f2.length d2, .slice B3 P.f3.length d3, .slice B4 P.f4.length d4, .int .i64 P.f5, .slice B6 P.f6.length d6, .slice B7 P.f7.length d7, .slice B8 P.f8.length d8, .slice (some ad) P.f9.length d9] (fun w => Tryd.sizeOf27 w) Tryd.isAgg27 (blk_list BP.out)) ?_))
          refine (equal_weak P P _ _ wb HKT.out HKP.out).mono ?_
          rintro e wc ⟨b, rfl, hbt, hV⟩
          have n_BP := Aside0.mk (blk_below BP.out hV)
          have n_BE := Aside0.mk (blk_below BE.out hV)
          have n_BA := Aside0.mk (blk_below BA.out hV)
          have n_BB := Aside0.mk (blk_below BB.out hV)
          have n_BT := Aside0.mk (blk_below BT.out hV)
          have n_HKP := Aside0.mk (k27.K_below hV HKP.out)
          have n_HKE := Aside0.mk (k32.K_below hV HKE.out)
          have n_HRK := Aside0.mk (k30.K_below hV HRK.out)
          have n_HKQ := Aside0.mk (k27.K_below hV HKQ.out)
          have n_HKT := Aside0.mk (k27.K_below hV HKT.out)
          have n_HB := Aside0.mk (HB.out.trans (Below.mono hV HB.out.size))
          clear BP BE BA BB BT HKP HKE HRK HKQ HKT HB
          have BP := n_BP
          have BE := n_BE
          have BA := n_BA
          have BB := n_BB
          have BT := n_BT
          have HKP := n_HKP
          have HKE := n_HKE
          have HRK := n_HRK
          have HKQ := n_HKQ
          have HKT := n_HKT
          have HB := n_HB
          clear n_BP n_BE n_BA n_BB n_BT n_HKP n_HKE n_HRK n_HKQ n_HKT n_HB
          obtain rfl := hbt rfl
          clear hV hbt
          go_wp2_with fail
          refine (known_any _ (Glob_below HG.out HB.out)).mono ?_
          rintro e wz ⟨rfl, hz⟩
          have hBz := HB.out.trans (Below.mono hz HB.out.size)
          go_wp2_with fail
          go_ret
          exact ⟨rfl, hBz⟩
        · skip
          have xBP2 : w5.cell? ⟨g, 2, none⟩ = some (.slice B2 P.f2.length d2) := (blk_cell BP.out 2).trans rfl
          have xBP9 : w5.cell? ⟨g, 9, none⟩ = some (.slice B9 P.f9.length d9) := (blk_cell BP.out 9).trans rfl
          have xBE0 : w5.cell? ⟨g2, 0, none⟩ = some (.int .i64 E.f0) := (blk_cell BE.out 0).trans rfl
          have xBE1 : w5.cell? ⟨g2, 1, none⟩ = some (.int .i64 E.f1) := (blk_cell BE.out 1).trans rfl
          have xBE20 : w5.cell? ⟨g2, 20, none⟩ = some (.int .i64 E.f3) := (blk_cell BE.out 20).trans rfl
          have xBE21 : w5.cell? ⟨g2, 21, none⟩ = some (.string E.f4) := (blk_cell BE.out 21).trans rfl
          have xBA9 : w5.cell? ⟨g5, 9, none⟩ = some (.slice U9 Q.f9.length u9) := (blk_cell BA.out 9).trans rfl
          have k2 : (E.f0 == 2) = false := by rw [hk]; rfl
          have k3 : (E.f0 == 3) = true := by rw [hk]; rfl
          have k4 : (E.f0 == 4) = false := by rw [hk]; rfl
          have k5 : (E.f0 == 5) = false := by rw [hk]; rfl
          have k6 : (E.f0 == 6) = false := by rw [hk]; rfl
          obtain ⟨hr0, hr1⟩ := hrng.1 (by omega)
          have dd1 : decide (E.f1 < 0) = false := decide_eq_false (by omega)
          have dd2 : decide ((P.f9.length : Int) ≤ E.f1) = false := decide_eq_false (by omega)
          go_wp2_with ((with_reducible refine gate_dst (N := 8) rfl ?_); refine new_event rfl rfl #[.int .i64 0, .int .i64 0, .string (⟨#[]⟩ : ByteArray), .int .i64 0, .int .i64 0, .int .i64 0, .int .i64 0, .int .i64 0, .slice none 0 0, .slice none 0 0, .slice none 0 0, .slice none 0 0, .int .i64 0, .int .i64 0, .slice none 0 0, .int .i64 0, .slice none 0 0, .slice none 0 0, .slice none 0 0, .int .i64 0, .int .i64 0, .string (⟨#[]⟩ : ByteArray)] #[.int .i64 3, .int .i64 P.f9.length, .string (⟨#[]⟩ : ByteArray), .int .i64 0, .int .i64 0, .int .i64 0, .int .i64 0, .int .i64 0, .slice none 0 0, .slice none 0 0, .slice none 0 0, .slice none 0 0, .int .i64 0, .int .i64 0, .slice none 0 0, .int .i64 0, .slice none 0 0, .slice none 0 0, .slice none 0 0, .int .i64 0, .int .i64 0, .string (⟨#[]⟩ : ByteArray)] 32 (by first | (go_simp; done) | (go_simp; rfl)) rfl rfl (.tmp 8) (.tmp 83) rfl (by go_simp) (by first | (go_simp; done) | (go_simp; rfl)) (by kernel_rfl) rfl (by simp [Value.oneCell']) ?_; intro g8 hg8 w6 hb8 hV; refine Halt.go ?_)
          unfold Halt
          have hb8l : w5.heap.size ≤ g8 := by rw [hg8]; exact Nat.le_refl _
          clear hg8 xBP2 xBP9 xBE0 xBE1 xBE20 xBE21 xBA9
          have HV6 := Aside0.mk hV
          have BB := Aside0.mk hb8
          clear hV hb8
          have xBP2 : w6.cell? ⟨g, 2, none⟩ = some (.slice B2 P.f2.length d2) := (blk_cell (blk_below BP.out HV6.out) 2).trans rfl
          have xBP9 : w6.cell? ⟨g, 9, none⟩ = some (.slice B9 P.f9.length d9) := (blk_cell (blk_below BP.out HV6.out) 9).trans rfl
          have xBE0 : w6.cell? ⟨g2, 0, none⟩ = some (.int .i64 E.f0) := (blk_cell (blk_below BE.out HV6.out) 0).trans rfl
          have xBE1 : w6.cell? ⟨g2, 1, none⟩ = some (.int .i64 E.f1) := (blk_cell (blk_below BE.out HV6.out) 1).trans rfl
          have xBE20 : w6.cell? ⟨g2, 20, none⟩ = some (.int .i64 E.f3) := (blk_cell (blk_below BE.out HV6.out) 20).trans rfl
          have xBE21 : w6.cell? ⟨g2, 21, none⟩ = some (.string E.f4) := (blk_cell (blk_below BE.out HV6.out) 21).trans rfl
          have xBA9 : w6.cell? ⟨g5, 9, none⟩ = some (.slice U9 Q.f9.length u9) := (blk_cell (blk_below BA.out HV6.out) 9).trans rfl
          by_cases hlast : E.f1 = (P.f9.length : Int) - 1
          rotate_left
          · have e1 : (E.f1 == (P.f9.length : Int) - 1) = false := beq_eq_false_iff_ne.mpr hlast
            have e2 : (E.f1 != (P.f9.length : Int) - 1) = true := bne_iff_ne.mpr hlast
            have e3 : ((Q.f9.length : Int) == (P.f9.length : Int) - 1) = true := beq_iff_eq.mpr (appl_less validE HAP.out hk)
            have n_BP := Aside0.mk (blk_below BP.out HV6.out)
            have n_BE := Aside0.mk (blk_below BE.out HV6.out)
            have n_BA := Aside0.mk (blk_below BA.out HV6.out)
            have n_HKP := Aside0.mk (k27.K_below HV6.out HKP.out)
            have n_HKE := Aside0.mk (k32.K_below HV6.out HKE.out)
            have n_HRK := Aside0.mk (k30.K_below HV6.out HRK.out)
            have n_HKQ := Aside0.mk (k27.K_below HV6.out HKQ.out)
            have n_HB := Aside0.mk (HB.out.trans (Below.mono HV6.out HB.out.size))
            clear BP BE BA HKP HKE HRK HKQ HB
            have BP := n_BP
            have BE := n_BE
            have BA := n_BA
            have HKP := n_HKP
            have HKE := n_HKE
            have HRK := n_HRK
            have HKQ := n_HKQ
            have HB := n_HB
            clear n_BP n_BE n_BA n_HKP n_HKE n_HRK n_HKQ n_HB
            go_wp2_with fail
            refine (known_any _ (Glob_below HG.out HB.out)).mono ?_
            rintro e wz ⟨rfl, hz⟩
            have hBz := HB.out.trans (Below.mono hz HB.out.size)
            go_wp2_with fail
            go_ret
            exact ⟨rfl, hBz⟩
          have e1 : (E.f1 == (P.f9.length : Int) - 1) = true := beq_iff_eq.mpr hlast
          have e2 : (E.f1 != (P.f9.length : Int) - 1) = false := bne_eq_false_iff_eq.mpr hlast
          have hrn : E.f1.toNat < P.f9.length := by omega
          obtain ⟨ad, cr, hB9, hKr, hn, hX⟩ := at_rule (Kd.C_below G9.out HB.out) E.f1.toNat hrn
          subst hB9
          have hSR := Aside0.mk (mid_get HM.out E.f1.toNat hrn)
          obtain ⟨R, hR⟩ : ∃ R, R = P.f9.getD E.f1.toNat z30 := ⟨_, rfl⟩
          rw [← hR] at hKr hSR
          have HR := Aside0.mk hR
          have HKR := Aside0.mk hKr
          obtain ⟨C6, q6, C7, q7, C8, q8, C9, q9, C12, q12, C14, q14, C15, q15, C16, q16, rfl, _⟩ := k30_open hKr
          have HX : Aside0 (∀ j v, ([.string R.f0, .int .i64 R.f1, .int .i64 R.f2, .int .i64 R.f3, .int .i64 R.f4, .int .i64 R.f5, .slice C6 R.f6.length q6, .slice C7 R.f7.length q7, .slice C8 R.f8.length q8, .slice C9 R.f9.length q9, .int .i64 R.f10, .int .i64 R.f11, .slice C12 R.f12.length q12, .int .i64 R.f13, .slice C14 R.f14.length q14, .slice C15 R.f15.length q15, .slice C16 R.f16.length q16, .int .i64 R.f17] : List Value)[j]? = some v → w6.cell? ((ad.add (E.f1.toNat * 18)).add j) = some v) := ⟨fun j v hj => (HV6.out.cell (World.block_lt_of_cell? _ _ (hX j v hj))).trans (hX j v hj)⟩
          clear hKr hn hX hR
          go_wp2_with (first | ((with_reducible refine gate_dst (N := 122) rfl ?_); (try (refine gate_guard (by rfl) ?_; dsimp only)); refine Kd.event_run rfl (load_run 30 (.tmp 121) rfl (ad.add (E.f1.toNat * 18)) (by go_simp) [.string R.f0, .int .i64 R.f1, .int .i64 R.f2, .int .i64 R.f3, .int .i64 R.f4, .int .i64 R.f5, .slice C6 R.f6.length q6, .slice C7 R.f7.length q7, .slice C8 R.f8.length q8, .slice C9 R.f9.length q9, .int .i64 R.f10, .int .i64 R.f11, .slice C12 R.f12.length q12, .int .i64 R.f13, .slice C14 R.f14.length q14, .slice C15 R.f15.length q15, .slice C16 R.f16.length q16, .int .i64 R.f17] (fun w => Tryd.sizeOf30 w) Tryd.isAgg30 HX.out) ?_) | (refine store_all 32 (.tmp 8) (.tmp 123) rfl rfl rfl g8 #[.int .i64 3, .int .i64 P.f9.length, .string (⟨#[]⟩ : ByteArray), .int .i64 0, .int .i64 0, .int .i64 0, .int .i64 0, .int .i64 0, .slice none 0 0, .slice none 0 0, .slice none 0 0, .slice none 0 0, .int .i64 0, .int .i64 0, .slice none 0 0, .int .i64 0, .slice none 0 0, .slice none 0 0, .slice none 0 0, .int .i64 0, .int .i64 0, .string (⟨#[]⟩ : ByteArray)] #[.int .i64 1, .int .i64 0, .string R.f0, .int .i64 R.f1, .int .i64 R.f2, .int .i64 R.f3, .int .i64 R.f4, .int .i64 R.f5, .slice C6 R.f6.length q6, .slice C7 R.f7.length q7, .slice C8 R.f8.length q8, .slice C9 R.f9.length q9, .int .i64 R.f10, .int .i64 R.f11, .slice C12 R.f12.length q12, .int .i64 R.f13, .slice C14 R.f14.length q14, .slice C15 R.f15.length q15, .slice C16 R.f16.length q16, .int .i64 R.f17, .int .i64 0, .string (⟨#[]⟩ : ByteArray)] (by go_simp) (by first | (go_simp; done) | (go_simp; rfl)) BB.out (by kernel_rfl) rfl (by simp [Value.oneCell']) ?_; intro w7 hb7 hm7 hB7; refine Halt.go ?_))
          unfold Halt
          have HV7 := Aside0.mk (hB7 _ _ HV6.out hb8l)
          clear BB hm7 hB7 xBP2 xBP9 xBE0 xBE1 xBE20 xBE21 xBA9
          have BB := Aside0.mk hb7
          clear hb7
          have n_BP := Aside0.mk (blk_below BP.out HV7.out)
          have n_BE := Aside0.mk (blk_below BE.out HV7.out)
          have n_BA := Aside0.mk (blk_below BA.out HV7.out)
          have n_HKP := Aside0.mk (k27.K_below HV7.out HKP.out)
          have n_HKE := Aside0.mk (k32.K_below HV7.out HKE.out)
          have n_HRK := Aside0.mk (k30.K_below HV7.out HRK.out)
          have n_HKQ := Aside0.mk (k27.K_below HV7.out HKQ.out)
          have n_HB := Aside0.mk (HB.out.trans (Below.mono HV7.out HB.out.size))
          clear BP BE BA HKP HKE HRK HKQ HB
          have BP := n_BP
          have BE := n_BE
          have BA := n_BA
          have HKP := n_HKP
          have HKE := n_HKE
          have HRK := n_HRK
          have HKQ := n_HKQ
          have HB := n_HB
          clear n_BP n_BE n_BA n_HKP n_HKE n_HRK n_HKQ n_HB
          have xBP2 : w7.cell? ⟨g, 2, none⟩ = some (.slice B2 P.f2.length d2) := (blk_cell BP.out 2).trans rfl
          have xBP9 : w7.cell? ⟨g, 9, none⟩ = some (.slice (some ad) P.f9.length d9) := (blk_cell BP.out 9).trans rfl
          have xBE0 : w7.cell? ⟨g2, 0, none⟩ = some (.int .i64 E.f0) := (blk_cell BE.out 0).trans rfl
          have xBE1 : w7.cell? ⟨g2, 1, none⟩ = some (.int .i64 E.f1) := (blk_cell BE.out 1).trans rfl
          have xBE20 : w7.cell? ⟨g2, 20, none⟩ = some (.int .i64 E.f3) := (blk_cell BE.out 20).trans rfl
          have xBE21 : w7.cell? ⟨g2, 21, none⟩ = some (.string E.f4) := (blk_cell BE.out 21).trans rfl
          have xBA9 : w7.cell? ⟨g5, 9, none⟩ = some (.slice U9 Q.f9.length u9) := (blk_cell BA.out 9).trans rfl
          have HBK := Aside0.mk (k32_of (x := ⟨1, 0, R, 0, ByteArray.empty⟩) (k30.K_below HV7.out HKR.out))
          have hab : appl validE Q ⟨1, 0, R, 0, ByteArray.empty⟩ = some P := by have := appl_back validE (fun P h => (validE_sorted h).1) z30 HAP.out (by omega); rw [show backOf P z30 E = ⟨1, 0, R, 0, ByteArray.empty⟩ from by unfold backOf; rw [if_neg (by omega), if_pos (by omega), ← HR.out]] at this; exact this
          have HAB := Aside0.mk hab
          clear hab
          go_wp2_with (first | ((with_reducible refine gate_dst (N := 149) rfl ?_); (try (refine gate_guard (by rfl) ?_; dsimp only)); refine Kd.event_run rfl (load_run 27 (.tmp 5) rfl ⟨g5, 0, none⟩ (by go_simp) [.string Q.f0, .int .i64 Q.f1, .slice U2 Q.f2.length u2, .slice U3 Q.f3.length u3, .slice U4 Q.f4.length u4, .int .i64 Q.f5, .slice U6 Q.f6.length u6, .slice U7 Q.f7.length u7, .slice U8 Q.f8.length u8, .slice U9 Q.f9.length u9] (fun w => Tryd.sizeOf27 w) Tryd.isAgg27 (blk_list BA.out)) ?_) | ((with_reducible refine gate_dst (N := 150) rfl ?_); (try (refine gate_guard (by rfl) ?_; dsimp only)); refine Kd.event_run rfl (load_run 32 (.tmp 8) rfl ⟨g8, 0, none⟩ (by go_simp) [.int .i64 1, .int .i64 0, .string R.f0, .int .i64 R.f1, .int .i64 R.f2, .int .i64 R.f3, .int .i64 R.f4, .int .i64 R.f5, .slice C6 R.f6.length q6, .slice C7 R.f7.length q7, .slice C8 R.f8.length q8, .slice C9 R.f9.length q9, .int .i64 R.f10, .int .i64 R.f11, .slice C12 R.f12.length q12, .int .i64 R.f13, .slice C14 R.f14.length q14, .slice C15 R.f15.length q15, .slice C16 R.f16.length q16, .int .i64 R.f17, .int .i64 0, .string (⟨#[]⟩ : ByteArray)] (fun w => Tryd.sizeOf32 w) Tryd.isAgg32 (blk_list BB.out)) ?_))
          clear xBP2 xBP9 xBE0 xBE1 xBE20 xBE21 xBA9
          refine (apply_any Q ⟨1, 0, R, 0, ByteArray.empty⟩ _ _ w7 1 (Glob_below HG.out HB.out) HKQ.out HBK.out HMQ.out (by decide) hSR.out).mono ?_
          rintro e wa ⟨k, qs, rfl, hV, hm⟩
          have n_BP := Aside0.mk (blk_below BP.out hV)
          have n_BE := Aside0.mk (blk_below BE.out hV)
          have n_BA := Aside0.mk (blk_below BA.out hV)
          have n_BB := Aside0.mk (blk_below BB.out hV)
          have n_HKP := Aside0.mk (k27.K_below hV HKP.out)
          have n_HKE := Aside0.mk (k32.K_below hV HKE.out)
          have n_HRK := Aside0.mk (k30.K_below hV HRK.out)
          have n_HKQ := Aside0.mk (k27.K_below hV HKQ.out)
          have n_HB := Aside0.mk (HB.out.trans (Below.mono hV HB.out.size))
          clear BP BE BA BB HKP HKE HRK HKQ HB
          have BP := n_BP
          have BE := n_BE
          have BA := n_BA
          have BB := n_BB
          have HKP := n_HKP
          have HKE := n_HKE
          have HRK := n_HRK
          have HKQ := n_HKQ
          have HB := n_HB
          clear n_BP n_BE n_BA n_BB n_HKP n_HKE n_HRK n_HKQ n_HB
          rw [HAB.out] at hm
          obtain ⟨rfl, hkt⟩ := hm
          have HKT := Aside0.mk hkt
          obtain ⟨T2, t2, T3, t3, T4, t4, T6, t6, T7, t7, T8, t8, T9, t9, rfl, _⟩ := k27_open hkt
          clear hV hkt
          go_wp2_with ((with_reducible refine gate_dst (N := 9) rfl ?_); refine new_event rfl rfl #[.string (⟨#[]⟩ : ByteArray), .int .i64 0, .slice none 0 0, .slice none 0 0, .slice none 0 0, .int .i64 0, .slice none 0 0, .slice none 0 0, .slice none 0 0, .slice none 0 0] #[.string P.f0, .int .i64 P.f1, .slice T2 P.f2.length t2, .slice T3 P.f3.length t3, .slice T4 P.f4.length t4, .int .i64 P.f5, .slice T6 P.f6.length t6, .slice T7 P.f7.length t7, .slice T8 P.f8.length t8, .slice T9 P.f9.length t9] 27 (by first | (go_simp; done) | (go_simp; rfl)) rfl rfl (.tmp 9) (.tmp 152) rfl (by go_simp) (by first | (go_simp; done) | (go_simp; rfl)) (by kernel_rfl) rfl (by simp [Value.oneCell']) ?_; intro g9 hg9 wb hb9 hV; refine Halt.go ?_)
          unfold Halt
          clear hg9
          have n_BP := Aside0.mk (blk_below BP.out hV)
          have n_BE := Aside0.mk (blk_below BE.out hV)
          have n_BA := Aside0.mk (blk_below BA.out hV)
          have n_BB := Aside0.mk (blk_below BB.out hV)
          have n_HKP := Aside0.mk (k27.K_below hV HKP.out)
          have n_HKE := Aside0.mk (k32.K_below hV HKE.out)
          have n_HRK := Aside0.mk (k30.K_below hV HRK.out)
          have n_HKQ := Aside0.mk (k27.K_below hV HKQ.out)
          have n_HKT := Aside0.mk (k27.K_below hV HKT.out)
          have n_HB := Aside0.mk (HB.out.trans (Below.mono hV HB.out.size))
          clear BP BE BA BB HKP HKE HRK HKQ HKT HB
          have BP := n_BP
          have BE := n_BE
          have BA := n_BA
          have BB := n_BB
          have HKP := n_HKP
          have HKE := n_HKE
          have HRK := n_HRK
          have HKQ := n_HKQ
          have HKT := n_HKT
          have HB := n_HB
          clear n_BP n_BE n_BA n_BB n_HKP n_HKE n_HRK n_HKQ n_HKT n_HB
          have BT := Aside0.mk hb9
          clear hV hb9
          go_wp2_with (first | ((with_reducible refine gate_dst (N := 157) rfl ?_); (try (refine gate_guard (by rfl) ?_; dsimp only)); refine Kd.event_run rfl (load_run 27 (.tmp 9) rfl ⟨g9, 0, none⟩ (by go_simp) [.string P.f0, .int .i64 P.f1, .slice T2 P.f2.length t2, .slice T3 P.f3.length t3, .slice T4 P.f4.length t4, .int .i64 P.f5, .slice T6 P.f6.length t6, .slice T7 P.f7.length t7, .slice T8 P.f8.length t8, .slice T9 P.f9.length t9] (fun w => Tryd.sizeOf27 w) Tryd.isAgg27 (blk_list BT.out)) ?_) | ((with_reducible refine gate_dst (N := 158) rfl ?_); (try (refine gate_guard (by rfl) ?_; dsimp only)); refine Kd.event_run rfl (load_run 27 (.tmp 2) rfl ⟨g, 0, none⟩ (by go_simp) [.string P.f0, .int .i64 P.f1, .slice B2 P.f2.length d2, .slice B3 P.f3.length d3, .slice B4 P.f4.length d4, .int .i64 P.f5, .slice B6 P.f6.length d6, .slice B7 P.f7.length d7, .slice B8 P.f8.length d8, .slice (some ad) P.f9.length d9] (fun w => Tryd.sizeOf27 w) Tryd.isAgg27 (blk_list BP.out)) ?_))
          refine (equal_weak P P _ _ wb HKT.out HKP.out).mono ?_
          rintro e wc ⟨b, rfl, hbt, hV⟩
          have n_BP := Aside0.mk (blk_below BP.out hV)
          have n_BE := Aside0.mk (blk_below BE.out hV)
          have n_BA := Aside0.mk (blk_below BA.out hV)
          have n_BB := Aside0.mk (blk_below BB.out hV)
          have n_BT := Aside0.mk (blk_below BT.out hV)
          have n_HKP := Aside0.mk (k27.K_below hV HKP.out)
          have n_HKE := Aside0.mk (k32.K_below hV HKE.out)
          have n_HRK := Aside0.mk (k30.K_below hV HRK.out)
          have n_HKQ := Aside0.mk (k27.K_below hV HKQ.out)
          have n_HKT := Aside0.mk (k27.K_below hV HKT.out)
          have n_HB := Aside0.mk (HB.out.trans (Below.mono hV HB.out.size))
          clear BP BE BA BB BT HKP HKE HRK HKQ HKT HB
          have BP := n_BP
          have BE := n_BE
          have BA := n_BA
          have BB := n_BB
          have BT := n_BT
          have HKP := n_HKP
          have HKE := n_HKE
          have HRK := n_HRK
          have HKQ := n_HKQ
          have HKT := n_HKT
          have HB := n_HB
          clear n_BP n_BE n_BA n_BB n_BT n_HKP n_HKE n_HRK n_HKQ n_HKT n_HB
          obtain rfl := hbt rfl
          clear hV hbt
          go_wp2_with fail
          refine (known_any _ (Glob_below HG.out HB.out)).mono ?_
          rintro e wz ⟨rfl, hz⟩
          have hBz := HB.out.trans (Below.mono hz HB.out.size)
          go_wp2_with fail
          go_ret
          exact ⟨rfl, hBz⟩
        · skip
          have xBP2 : w5.cell? ⟨g, 2, none⟩ = some (.slice B2 P.f2.length d2) := (blk_cell BP.out 2).trans rfl
          have xBP9 : w5.cell? ⟨g, 9, none⟩ = some (.slice B9 P.f9.length d9) := (blk_cell BP.out 9).trans rfl
          have xBE0 : w5.cell? ⟨g2, 0, none⟩ = some (.int .i64 E.f0) := (blk_cell BE.out 0).trans rfl
          have xBE1 : w5.cell? ⟨g2, 1, none⟩ = some (.int .i64 E.f1) := (blk_cell BE.out 1).trans rfl
          have xBE20 : w5.cell? ⟨g2, 20, none⟩ = some (.int .i64 E.f3) := (blk_cell BE.out 20).trans rfl
          have xBE21 : w5.cell? ⟨g2, 21, none⟩ = some (.string E.f4) := (blk_cell BE.out 21).trans rfl
          have xBA9 : w5.cell? ⟨g5, 9, none⟩ = some (.slice U9 Q.f9.length u9) := (blk_cell BA.out 9).trans rfl
          have k2 : (E.f0 == 2) = false := by rw [hk]; rfl
          have k3 : (E.f0 == 3) = false := by rw [hk]; rfl
          have k4 : (E.f0 == 4) = true := by rw [hk]; rfl
          have k5 : (E.f0 == 5) = false := by rw [hk]; rfl
          have k6 : (E.f0 == 6) = false := by rw [hk]; rfl
          go_wp2_with ((with_reducible refine gate_dst (N := 8) rfl ?_); refine new_event rfl rfl #[.int .i64 0, .int .i64 0, .string (⟨#[]⟩ : ByteArray), .int .i64 0, .int .i64 0, .int .i64 0, .int .i64 0, .int .i64 0, .slice none 0 0, .slice none 0 0, .slice none 0 0, .slice none 0 0, .int .i64 0, .int .i64 0, .slice none 0 0, .int .i64 0, .slice none 0 0, .slice none 0 0, .slice none 0 0, .int .i64 0, .int .i64 0, .string (⟨#[]⟩ : ByteArray)] #[.int .i64 3, .int .i64 P.f9.length, .string (⟨#[]⟩ : ByteArray), .int .i64 0, .int .i64 0, .int .i64 0, .int .i64 0, .int .i64 0, .slice none 0 0, .slice none 0 0, .slice none 0 0, .slice none 0 0, .int .i64 0, .int .i64 0, .slice none 0 0, .int .i64 0, .slice none 0 0, .slice none 0 0, .slice none 0 0, .int .i64 0, .int .i64 0, .string (⟨#[]⟩ : ByteArray)] 32 (by first | (go_simp; done) | (go_simp; rfl)) rfl rfl (.tmp 8) (.tmp 83) rfl (by go_simp) (by first | (go_simp; done) | (go_simp; rfl)) (by kernel_rfl) rfl (by simp [Value.oneCell']) ?_; intro g8 hg8 w6 hb8 hV; refine Halt.go ?_)
          unfold Halt
          have hb8l : w5.heap.size ≤ g8 := by rw [hg8]; exact Nat.le_refl _
          clear hg8 xBP2 xBP9 xBE0 xBE1 xBE20 xBE21 xBA9
          have HV6 := Aside0.mk hV
          have BB := Aside0.mk hb8
          clear hV hb8
          have xBP2 : w6.cell? ⟨g, 2, none⟩ = some (.slice B2 P.f2.length d2) := (blk_cell (blk_below BP.out HV6.out) 2).trans rfl
          have xBP9 : w6.cell? ⟨g, 9, none⟩ = some (.slice B9 P.f9.length d9) := (blk_cell (blk_below BP.out HV6.out) 9).trans rfl
          have xBE0 : w6.cell? ⟨g2, 0, none⟩ = some (.int .i64 E.f0) := (blk_cell (blk_below BE.out HV6.out) 0).trans rfl
          have xBE1 : w6.cell? ⟨g2, 1, none⟩ = some (.int .i64 E.f1) := (blk_cell (blk_below BE.out HV6.out) 1).trans rfl
          have xBE20 : w6.cell? ⟨g2, 20, none⟩ = some (.int .i64 E.f3) := (blk_cell (blk_below BE.out HV6.out) 20).trans rfl
          have xBE21 : w6.cell? ⟨g2, 21, none⟩ = some (.string E.f4) := (blk_cell (blk_below BE.out HV6.out) 21).trans rfl
          have xBA9 : w6.cell? ⟨g5, 9, none⟩ = some (.slice U9 Q.f9.length u9) := (blk_cell (blk_below BA.out HV6.out) 9).trans rfl
          go_wp2_with (refine store_all 32 (.tmp 8) (.tmp 129) rfl rfl rfl g8 #[.int .i64 3, .int .i64 P.f9.length, .string (⟨#[]⟩ : ByteArray), .int .i64 0, .int .i64 0, .int .i64 0, .int .i64 0, .int .i64 0, .slice none 0 0, .slice none 0 0, .slice none 0 0, .slice none 0 0, .int .i64 0, .int .i64 0, .slice none 0 0, .int .i64 0, .slice none 0 0, .slice none 0 0, .slice none 0 0, .int .i64 0, .int .i64 0, .string (⟨#[]⟩ : ByteArray)] #[.int .i64 5, .int .i64 0, .string (⟨#[]⟩ : ByteArray), .int .i64 0, .int .i64 0, .int .i64 0, .int .i64 0, .int .i64 0, .slice none 0 0, .slice none 0 0, .slice none 0 0, .slice none 0 0, .int .i64 0, .int .i64 0, .slice none 0 0, .int .i64 0, .slice none 0 0, .slice none 0 0, .slice none 0 0, .int .i64 0, .int .i64 E.f3, .string (⟨#[]⟩ : ByteArray)] (by go_simp) (by first | (go_simp; done) | (go_simp; rfl)) BB.out (by kernel_rfl) rfl (by simp [Value.oneCell']) ?_; intro w7 hb7 hm7 hB7; refine Halt.go ?_)
          unfold Halt
          have HV7 := Aside0.mk (hB7 _ _ HV6.out hb8l)
          clear BB hm7 hB7 xBP2 xBP9 xBE0 xBE1 xBE20 xBE21 xBA9
          have BB := Aside0.mk hb7
          clear hb7
          have n_BP := Aside0.mk (blk_below BP.out HV7.out)
          have n_BE := Aside0.mk (blk_below BE.out HV7.out)
          have n_BA := Aside0.mk (blk_below BA.out HV7.out)
          have n_HKP := Aside0.mk (k27.K_below HV7.out HKP.out)
          have n_HKE := Aside0.mk (k32.K_below HV7.out HKE.out)
          have n_HRK := Aside0.mk (k30.K_below HV7.out HRK.out)
          have n_HKQ := Aside0.mk (k27.K_below HV7.out HKQ.out)
          have n_HB := Aside0.mk (HB.out.trans (Below.mono HV7.out HB.out.size))
          clear BP BE BA HKP HKE HRK HKQ HB
          have BP := n_BP
          have BE := n_BE
          have BA := n_BA
          have HKP := n_HKP
          have HKE := n_HKE
          have HRK := n_HRK
          have HKQ := n_HKQ
          have HB := n_HB
          clear n_BP n_BE n_BA n_HKP n_HKE n_HRK n_HKQ n_HB
          have xBP2 : w7.cell? ⟨g, 2, none⟩ = some (.slice B2 P.f2.length d2) := (blk_cell BP.out 2).trans rfl
          have xBP9 : w7.cell? ⟨g, 9, none⟩ = some (.slice B9 P.f9.length d9) := (blk_cell BP.out 9).trans rfl
          have xBE0 : w7.cell? ⟨g2, 0, none⟩ = some (.int .i64 E.f0) := (blk_cell BE.out 0).trans rfl
          have xBE1 : w7.cell? ⟨g2, 1, none⟩ = some (.int .i64 E.f1) := (blk_cell BE.out 1).trans rfl
          have xBE20 : w7.cell? ⟨g2, 20, none⟩ = some (.int .i64 E.f3) := (blk_cell BE.out 20).trans rfl
          have xBE21 : w7.cell? ⟨g2, 21, none⟩ = some (.string E.f4) := (blk_cell BE.out 21).trans rfl
          have xBA9 : w7.cell? ⟨g5, 9, none⟩ = some (.slice U9 Q.f9.length u9) := (blk_cell BA.out 9).trans rfl
          have HBK := Aside0.mk (k32_of (x := ⟨5, 0, z30, E.f3, ByteArray.empty⟩) (k30_z w7))
          have hab : appl validE Q ⟨5, 0, z30, E.f3, ByteArray.empty⟩ = some P := by have := appl_back validE (fun P h => (validE_sorted h).1) z30 HAP.out (by omega); rw [show backOf P z30 E = ⟨5, 0, z30, E.f3, ByteArray.empty⟩ from by unfold backOf; rw [if_neg (by omega), if_neg (by omega), if_pos (by omega)]] at this; exact this
          have HAB := Aside0.mk hab
          clear hab
          go_wp2_with (first | ((with_reducible refine gate_dst (N := 149) rfl ?_); (try (refine gate_guard (by rfl) ?_; dsimp only)); refine Kd.event_run rfl (load_run 27 (.tmp 5) rfl ⟨g5, 0, none⟩ (by go_simp) [.string Q.f0, .int .i64 Q.f1, .slice U2 Q.f2.length u2, .slice U3 Q.f3.length u3, .slice U4 Q.f4.length u4, .int .i64 Q.f5, .slice U6 Q.f6.length u6, .slice U7 Q.f7.length u7, .slice U8 Q.f8.length u8, .slice U9 Q.f9.length u9] (fun w => Tryd.sizeOf27 w) Tryd.isAgg27 (blk_list BA.out)) ?_) | ((with_reducible refine gate_dst (N := 150) rfl ?_); (try (refine gate_guard (by rfl) ?_; dsimp only)); refine Kd.event_run rfl (load_run 32 (.tmp 8) rfl ⟨g8, 0, none⟩ (by go_simp) [.int .i64 5, .int .i64 0, .string (⟨#[]⟩ : ByteArray), .int .i64 0, .int .i64 0, .int .i64 0, .int .i64 0, .int .i64 0, .slice none 0 0, .slice none 0 0, .slice none 0 0, .slice none 0 0, .int .i64 0, .int .i64 0, .slice none 0 0, .int .i64 0, .slice none 0 0, .slice none 0 0, .slice none 0 0, .int .i64 0, .int .i64 E.f3, .string (⟨#[]⟩ : ByteArray)] (fun w => Tryd.sizeOf32 w) Tryd.isAgg32 (blk_list BB.out)) ?_))
          clear xBP2 xBP9 xBE0 xBE1 xBE20 xBE21 xBA9
          refine (apply_any Q ⟨5, 0, z30, E.f3, ByteArray.empty⟩ _ _ w7 1 (Glob_below HG.out HB.out) HKQ.out HBK.out HMQ.out (by decide) short_z30).mono ?_
          rintro e wa ⟨k, qs, rfl, hV, hm⟩
          have n_BP := Aside0.mk (blk_below BP.out hV)
          have n_BE := Aside0.mk (blk_below BE.out hV)
          have n_BA := Aside0.mk (blk_below BA.out hV)
          have n_BB := Aside0.mk (blk_below BB.out hV)
          have n_HKP := Aside0.mk (k27.K_below hV HKP.out)
          have n_HKE := Aside0.mk (k32.K_below hV HKE.out)
          have n_HRK := Aside0.mk (k30.K_below hV HRK.out)
          have n_HKQ := Aside0.mk (k27.K_below hV HKQ.out)
          have n_HB := Aside0.mk (HB.out.trans (Below.mono hV HB.out.size))
          clear BP BE BA BB HKP HKE HRK HKQ HB
          have BP := n_BP
          have BE := n_BE
          have BA := n_BA
          have BB := n_BB
          have HKP := n_HKP
          have HKE := n_HKE
          have HRK := n_HRK
          have HKQ := n_HKQ
          have HB := n_HB
          clear n_BP n_BE n_BA n_BB n_HKP n_HKE n_HRK n_HKQ n_HB
          rw [HAB.out] at hm
          obtain ⟨rfl, hkt⟩ := hm
          have HKT := Aside0.mk hkt
          obtain ⟨T2, t2, T3, t3, T4, t4, T6, t6, T7, t7, T8, t8, T9, t9, rfl, _⟩ := k27_open hkt
          clear hV hkt
          go_wp2_with ((with_reducible refine gate_dst (N := 9) rfl ?_); refine new_event rfl rfl #[.string (⟨#[]⟩ : ByteArray), .int .i64 0, .slice none 0 0, .slice none 0 0, .slice none 0 0, .int .i64 0, .slice none 0 0, .slice none 0 0, .slice none 0 0, .slice none 0 0] #[.string P.f0, .int .i64 P.f1, .slice T2 P.f2.length t2, .slice T3 P.f3.length t3, .slice T4 P.f4.length t4, .int .i64 P.f5, .slice T6 P.f6.length t6, .slice T7 P.f7.length t7, .slice T8 P.f8.length t8, .slice T9 P.f9.length t9] 27 (by first | (go_simp; done) | (go_simp; rfl)) rfl rfl (.tmp 9) (.tmp 152) rfl (by go_simp) (by first | (go_simp; done) | (go_simp; rfl)) (by kernel_rfl) rfl (by simp [Value.oneCell']) ?_; intro g9 hg9 wb hb9 hV; refine Halt.go ?_)
          unfold Halt
          clear hg9
          have n_BP := Aside0.mk (blk_below BP.out hV)
          have n_BE := Aside0.mk (blk_below BE.out hV)
          have n_BA := Aside0.mk (blk_below BA.out hV)
          have n_BB := Aside0.mk (blk_below BB.out hV)
          have n_HKP := Aside0.mk (k27.K_below hV HKP.out)
          have n_HKE := Aside0.mk (k32.K_below hV HKE.out)
          have n_HRK := Aside0.mk (k30.K_below hV HRK.out)
          have n_HKQ := Aside0.mk (k27.K_below hV HKQ.out)
          have n_HKT := Aside0.mk (k27.K_below hV HKT.out)
          have n_HB := Aside0.mk (HB.out.trans (Below.mono hV HB.out.size))
          clear BP BE BA BB HKP HKE HRK HKQ HKT HB
          have BP := n_BP
          have BE := n_BE
          have BA := n_BA
          have BB := n_BB
          have HKP := n_HKP
          have HKE := n_HKE
          have HRK := n_HRK
          have HKQ := n_HKQ
          have HKT := n_HKT
          have HB := n_HB
          clear n_BP n_BE n_BA n_BB n_HKP n_HKE n_HRK n_HKQ n_HKT n_HB
          have BT := Aside0.mk hb9
          clear hV hb9
          go_wp2_with (first | ((with_reducible refine gate_dst (N := 157) rfl ?_); (try (refine gate_guard (by rfl) ?_; dsimp only)); refine Kd.event_run rfl (load_run 27 (.tmp 9) rfl ⟨g9, 0, none⟩ (by go_simp) [.string P.f0, .int .i64 P.f1, .slice T2 P.f2.length t2, .slice T3 P.f3.length t3, .slice T4 P.f4.length t4, .int .i64 P.f5, .slice T6 P.f6.length t6, .slice T7 P.f7.length t7, .slice T8 P.f8.length t8, .slice T9 P.f9.length t9] (fun w => Tryd.sizeOf27 w) Tryd.isAgg27 (blk_list BT.out)) ?_) | ((with_reducible refine gate_dst (N := 158) rfl ?_); (try (refine gate_guard (by rfl) ?_; dsimp only)); refine Kd.event_run rfl (load_run 27 (.tmp 2) rfl ⟨g, 0, none⟩ (by go_simp) [.string P.f0, .int .i64 P.f1, .slice B2 P.f2.length d2, .slice B3 P.f3.length d3, .slice B4 P.f4.length d4, .int .i64 P.f5, .slice B6 P.f6.length d6, .slice B7 P.f7.length d7, .slice B8 P.f8.length d8, .slice B9 P.f9.length d9] (fun w => Tryd.sizeOf27 w) Tryd.isAgg27 (blk_list BP.out)) ?_))
          refine (equal_weak P P _ _ wb HKT.out HKP.out).mono ?_
          rintro e wc ⟨b, rfl, hbt, hV⟩
          have n_BP := Aside0.mk (blk_below BP.out hV)
          have n_BE := Aside0.mk (blk_below BE.out hV)
          have n_BA := Aside0.mk (blk_below BA.out hV)
          have n_BB := Aside0.mk (blk_below BB.out hV)
          have n_BT := Aside0.mk (blk_below BT.out hV)
          have n_HKP := Aside0.mk (k27.K_below hV HKP.out)
          have n_HKE := Aside0.mk (k32.K_below hV HKE.out)
          have n_HRK := Aside0.mk (k30.K_below hV HRK.out)
          have n_HKQ := Aside0.mk (k27.K_below hV HKQ.out)
          have n_HKT := Aside0.mk (k27.K_below hV HKT.out)
          have n_HB := Aside0.mk (HB.out.trans (Below.mono hV HB.out.size))
          clear BP BE BA BB BT HKP HKE HRK HKQ HKT HB
          have BP := n_BP
          have BE := n_BE
          have BA := n_BA
          have BB := n_BB
          have BT := n_BT
          have HKP := n_HKP
          have HKE := n_HKE
          have HRK := n_HRK
          have HKQ := n_HKQ
          have HKT := n_HKT
          have HB := n_HB
          clear n_BP n_BE n_BA n_BB n_BT n_HKP n_HKE n_HRK n_HKQ n_HKT n_HB
          obtain rfl := hbt rfl
          clear hV hbt
          go_wp2_with fail
          refine (known_any _ (Glob_below HG.out HB.out)).mono ?_
          rintro e wz ⟨rfl, hz⟩
          have hBz := HB.out.trans (Below.mono hz HB.out.size)
          go_wp2_with fail
          go_ret
          exact ⟨rfl, hBz⟩
        · skip
          have xBP2 : w5.cell? ⟨g, 2, none⟩ = some (.slice B2 P.f2.length d2) := (blk_cell BP.out 2).trans rfl
          have xBP9 : w5.cell? ⟨g, 9, none⟩ = some (.slice B9 P.f9.length d9) := (blk_cell BP.out 9).trans rfl
          have xBE0 : w5.cell? ⟨g2, 0, none⟩ = some (.int .i64 E.f0) := (blk_cell BE.out 0).trans rfl
          have xBE1 : w5.cell? ⟨g2, 1, none⟩ = some (.int .i64 E.f1) := (blk_cell BE.out 1).trans rfl
          have xBE20 : w5.cell? ⟨g2, 20, none⟩ = some (.int .i64 E.f3) := (blk_cell BE.out 20).trans rfl
          have xBE21 : w5.cell? ⟨g2, 21, none⟩ = some (.string E.f4) := (blk_cell BE.out 21).trans rfl
          have xBA9 : w5.cell? ⟨g5, 9, none⟩ = some (.slice U9 Q.f9.length u9) := (blk_cell BA.out 9).trans rfl
          have k2 : (E.f0 == 2) = false := by rw [hk]; rfl
          have k3 : (E.f0 == 3) = false := by rw [hk]; rfl
          have k4 : (E.f0 == 4) = false := by rw [hk]; rfl
          have k5 : (E.f0 == 5) = true := by rw [hk]; rfl
          have k6 : (E.f0 == 6) = false := by rw [hk]; rfl
          go_wp2_with ((with_reducible refine gate_dst (N := 8) rfl ?_); refine new_event rfl rfl #[.int .i64 0, .int .i64 0, .string (⟨#[]⟩ : ByteArray), .int .i64 0, .int .i64 0, .int .i64 0, .int .i64 0, .int .i64 0, .slice none 0 0, .slice none 0 0, .slice none 0 0, .slice none 0 0, .int .i64 0, .int .i64 0, .slice none 0 0, .int .i64 0, .slice none 0 0, .slice none 0 0, .slice none 0 0, .int .i64 0, .int .i64 0, .string (⟨#[]⟩ : ByteArray)] #[.int .i64 3, .int .i64 P.f9.length, .string (⟨#[]⟩ : ByteArray), .int .i64 0, .int .i64 0, .int .i64 0, .int .i64 0, .int .i64 0, .slice none 0 0, .slice none 0 0, .slice none 0 0, .slice none 0 0, .int .i64 0, .int .i64 0, .slice none 0 0, .int .i64 0, .slice none 0 0, .slice none 0 0, .slice none 0 0, .int .i64 0, .int .i64 0, .string (⟨#[]⟩ : ByteArray)] 32 (by first | (go_simp; done) | (go_simp; rfl)) rfl rfl (.tmp 8) (.tmp 83) rfl (by go_simp) (by first | (go_simp; done) | (go_simp; rfl)) (by kernel_rfl) rfl (by simp [Value.oneCell']) ?_; intro g8 hg8 w6 hb8 hV; refine Halt.go ?_)
          unfold Halt
          have hb8l : w5.heap.size ≤ g8 := by rw [hg8]; exact Nat.le_refl _
          clear hg8 xBP2 xBP9 xBE0 xBE1 xBE20 xBE21 xBA9
          have HV6 := Aside0.mk hV
          have BB := Aside0.mk hb8
          clear hV hb8
          have xBP2 : w6.cell? ⟨g, 2, none⟩ = some (.slice B2 P.f2.length d2) := (blk_cell (blk_below BP.out HV6.out) 2).trans rfl
          have xBP9 : w6.cell? ⟨g, 9, none⟩ = some (.slice B9 P.f9.length d9) := (blk_cell (blk_below BP.out HV6.out) 9).trans rfl
          have xBE0 : w6.cell? ⟨g2, 0, none⟩ = some (.int .i64 E.f0) := (blk_cell (blk_below BE.out HV6.out) 0).trans rfl
          have xBE1 : w6.cell? ⟨g2, 1, none⟩ = some (.int .i64 E.f1) := (blk_cell (blk_below BE.out HV6.out) 1).trans rfl
          have xBE20 : w6.cell? ⟨g2, 20, none⟩ = some (.int .i64 E.f3) := (blk_cell (blk_below BE.out HV6.out) 20).trans rfl
          have xBE21 : w6.cell? ⟨g2, 21, none⟩ = some (.string E.f4) := (blk_cell (blk_below BE.out HV6.out) 21).trans rfl
          have xBA9 : w6.cell? ⟨g5, 9, none⟩ = some (.slice U9 Q.f9.length u9) := (blk_cell (blk_below BA.out HV6.out) 9).trans rfl
          go_wp2_with (refine store_all 32 (.tmp 8) (.tmp 135) rfl rfl rfl g8 #[.int .i64 3, .int .i64 P.f9.length, .string (⟨#[]⟩ : ByteArray), .int .i64 0, .int .i64 0, .int .i64 0, .int .i64 0, .int .i64 0, .slice none 0 0, .slice none 0 0, .slice none 0 0, .slice none 0 0, .int .i64 0, .int .i64 0, .slice none 0 0, .int .i64 0, .slice none 0 0, .slice none 0 0, .slice none 0 0, .int .i64 0, .int .i64 0, .string (⟨#[]⟩ : ByteArray)] #[.int .i64 4, .int .i64 0, .string (⟨#[]⟩ : ByteArray), .int .i64 0, .int .i64 0, .int .i64 0, .int .i64 0, .int .i64 0, .slice none 0 0, .slice none 0 0, .slice none 0 0, .slice none 0 0, .int .i64 0, .int .i64 0, .slice none 0 0, .int .i64 0, .slice none 0 0, .slice none 0 0, .slice none 0 0, .int .i64 0, .int .i64 E.f3, .string (⟨#[]⟩ : ByteArray)] (by go_simp) (by first | (go_simp; done) | (go_simp; rfl)) BB.out (by kernel_rfl) rfl (by simp [Value.oneCell']) ?_; intro w7 hb7 hm7 hB7; refine Halt.go ?_)
          unfold Halt
          have HV7 := Aside0.mk (hB7 _ _ HV6.out hb8l)
          clear BB hm7 hB7 xBP2 xBP9 xBE0 xBE1 xBE20 xBE21 xBA9
          have BB := Aside0.mk hb7
          clear hb7
          have n_BP := Aside0.mk (blk_below BP.out HV7.out)
          have n_BE := Aside0.mk (blk_below BE.out HV7.out)
          have n_BA := Aside0.mk (blk_below BA.out HV7.out)
          have n_HKP := Aside0.mk (k27.K_below HV7.out HKP.out)
          have n_HKE := Aside0.mk (k32.K_below HV7.out HKE.out)
          have n_HRK := Aside0.mk (k30.K_below HV7.out HRK.out)
          have n_HKQ := Aside0.mk (k27.K_below HV7.out HKQ.out)
          have n_HB := Aside0.mk (HB.out.trans (Below.mono HV7.out HB.out.size))
          clear BP BE BA HKP HKE HRK HKQ HB
          have BP := n_BP
          have BE := n_BE
          have BA := n_BA
          have HKP := n_HKP
          have HKE := n_HKE
          have HRK := n_HRK
          have HKQ := n_HKQ
          have HB := n_HB
          clear n_BP n_BE n_BA n_HKP n_HKE n_HRK n_HKQ n_HB
          have xBP2 : w7.cell? ⟨g, 2, none⟩ = some (.slice B2 P.f2.length d2) := (blk_cell BP.out 2).trans rfl
          have xBP9 : w7.cell? ⟨g, 9, none⟩ = some (.slice B9 P.f9.length d9) := (blk_cell BP.out 9).trans rfl
          have xBE0 : w7.cell? ⟨g2, 0, none⟩ = some (.int .i64 E.f0) := (blk_cell BE.out 0).trans rfl
          have xBE1 : w7.cell? ⟨g2, 1, none⟩ = some (.int .i64 E.f1) := (blk_cell BE.out 1).trans rfl
          have xBE20 : w7.cell? ⟨g2, 20, none⟩ = some (.int .i64 E.f3) := (blk_cell BE.out 20).trans rfl
          have xBE21 : w7.cell? ⟨g2, 21, none⟩ = some (.string E.f4) := (blk_cell BE.out 21).trans rfl
          have xBA9 : w7.cell? ⟨g5, 9, none⟩ = some (.slice U9 Q.f9.length u9) := (blk_cell BA.out 9).trans rfl
          have HBK := Aside0.mk (k32_of (x := ⟨4, 0, z30, E.f3, ByteArray.empty⟩) (k30_z w7))
          have hab : appl validE Q ⟨4, 0, z30, E.f3, ByteArray.empty⟩ = some P := by have := appl_back validE (fun P h => (validE_sorted h).1) z30 HAP.out (by omega); rw [show backOf P z30 E = ⟨4, 0, z30, E.f3, ByteArray.empty⟩ from by unfold backOf; rw [if_neg (by omega), if_neg (by omega), if_neg (by omega), if_pos (by omega)]] at this; exact this
          have HAB := Aside0.mk hab
          clear hab
          go_wp2_with (first | ((with_reducible refine gate_dst (N := 149) rfl ?_); (try (refine gate_guard (by rfl) ?_; dsimp only)); refine Kd.event_run rfl (load_run 27 (.tmp 5) rfl ⟨g5, 0, none⟩ (by go_simp) [.string Q.f0, .int .i64 Q.f1, .slice U2 Q.f2.length u2, .slice U3 Q.f3.length u3, .slice U4 Q.f4.length u4, .int .i64 Q.f5, .slice U6 Q.f6.length u6, .slice U7 Q.f7.length u7, .slice U8 Q.f8.length u8, .slice U9 Q.f9.length u9] (fun w => Tryd.sizeOf27 w) Tryd.isAgg27 (blk_list BA.out)) ?_) | ((with_reducible refine gate_dst (N := 150) rfl ?_); (try (refine gate_guard (by rfl) ?_; dsimp only)); refine Kd.event_run rfl (load_run 32 (.tmp 8) rfl ⟨g8, 0, none⟩ (by go_simp) [.int .i64 4, .int .i64 0, .string (⟨#[]⟩ : ByteArray), .int .i64 0, .int .i64 0, .int .i64 0, .int .i64 0, .int .i64 0, .slice none 0 0, .slice none 0 0, .slice none 0 0, .slice none 0 0, .int .i64 0, .int .i64 0, .slice none 0 0, .int .i64 0, .slice none 0 0, .slice none 0 0, .slice none 0 0, .int .i64 0, .int .i64 E.f3, .string (⟨#[]⟩ : ByteArray)] (fun w => Tryd.sizeOf32 w) Tryd.isAgg32 (blk_list BB.out)) ?_))
          clear xBP2 xBP9 xBE0 xBE1 xBE20 xBE21 xBA9
          refine (apply_any Q ⟨4, 0, z30, E.f3, ByteArray.empty⟩ _ _ w7 1 (Glob_below HG.out HB.out) HKQ.out HBK.out HMQ.out (by decide) short_z30).mono ?_
          rintro e wa ⟨k, qs, rfl, hV, hm⟩
          have n_BP := Aside0.mk (blk_below BP.out hV)
          have n_BE := Aside0.mk (blk_below BE.out hV)
          have n_BA := Aside0.mk (blk_below BA.out hV)
          have n_BB := Aside0.mk (blk_below BB.out hV)
          have n_HKP := Aside0.mk (k27.K_below hV HKP.out)
          have n_HKE := Aside0.mk (k32.K_below hV HKE.out)
          have n_HRK := Aside0.mk (k30.K_below hV HRK.out)
          have n_HKQ := Aside0.mk (k27.K_below hV HKQ.out)
          have n_HB := Aside0.mk (HB.out.trans (Below.mono hV HB.out.size))
          clear BP BE BA BB HKP HKE HRK HKQ HB
          have BP := n_BP
          have BE := n_BE
          have BA := n_BA
          have BB := n_BB
          have HKP := n_HKP
          have HKE := n_HKE
          have HRK := n_HRK
          have HKQ := n_HKQ
          have HB := n_HB
          clear n_BP n_BE n_BA n_BB n_HKP n_HKE n_HRK n_HKQ n_HB
          rw [HAB.out] at hm
          obtain ⟨rfl, hkt⟩ := hm
          have HKT := Aside0.mk hkt
          obtain ⟨T2, t2, T3, t3, T4, t4, T6, t6, T7, t7, T8, t8, T9, t9, rfl, _⟩ := k27_open hkt
          clear hV hkt
          go_wp2_with ((with_reducible refine gate_dst (N := 9) rfl ?_); refine new_event rfl rfl #[.string (⟨#[]⟩ : ByteArray), .int .i64 0, .slice none 0 0, .slice none 0 0, .slice none 0 0, .int .i64 0, .slice none 0 0, .slice none 0 0, .slice none 0 0, .slice none 0 0] #[.string P.f0, .int .i64 P.f1, .slice T2 P.f2.length t2, .slice T3 P.f3.length t3, .slice T4 P.f4.length t4, .int .i64 P.f5, .slice T6 P.f6.length t6, .slice T7 P.f7.length t7, .slice T8 P.f8.length t8, .slice T9 P.f9.length t9] 27 (by first | (go_simp; done) | (go_simp; rfl)) rfl rfl (.tmp 9) (.tmp 152) rfl (by go_simp) (by first | (go_simp; done) | (go_simp; rfl)) (by kernel_rfl) rfl (by simp [Value.oneCell']) ?_; intro g9 hg9 wb hb9 hV; refine Halt.go ?_)
          unfold Halt
          clear hg9
          have n_BP := Aside0.mk (blk_below BP.out hV)
          have n_BE := Aside0.mk (blk_below BE.out hV)
          have n_BA := Aside0.mk (blk_below BA.out hV)
          have n_BB := Aside0.mk (blk_below BB.out hV)
          have n_HKP := Aside0.mk (k27.K_below hV HKP.out)
          have n_HKE := Aside0.mk (k32.K_below hV HKE.out)
          have n_HRK := Aside0.mk (k30.K_below hV HRK.out)
          have n_HKQ := Aside0.mk (k27.K_below hV HKQ.out)
          have n_HKT := Aside0.mk (k27.K_below hV HKT.out)
          have n_HB := Aside0.mk (HB.out.trans (Below.mono hV HB.out.size))
          clear BP BE BA BB HKP HKE HRK HKQ HKT HB
          have BP := n_BP
          have BE := n_BE
          have BA := n_BA
          have BB := n_BB
          have HKP := n_HKP
          have HKE := n_HKE
          have HRK := n_HRK
          have HKQ := n_HKQ
          have HKT := n_HKT
          have HB := n_HB
          clear n_BP n_BE n_BA n_BB n_HKP n_HKE n_HRK n_HKQ n_HKT n_HB
          have BT := Aside0.mk hb9
          clear hV hb9
          go_wp2_with (first | ((with_reducible refine gate_dst (N := 157) rfl ?_); (try (refine gate_guard (by rfl) ?_; dsimp only)); refine Kd.event_run rfl (load_run 27 (.tmp 9) rfl ⟨g9, 0, none⟩ (by go_simp) [.string P.f0, .int .i64 P.f1, .slice T2 P.f2.length t2, .slice T3 P.f3.length t3, .slice T4 P.f4.length t4, .int .i64 P.f5, .slice T6 P.f6.length t6, .slice T7 P.f7.length t7, .slice T8 P.f8.length t8, .slice T9 P.f9.length t9] (fun w => Tryd.sizeOf27 w) Tryd.isAgg27 (blk_list BT.out)) ?_) | ((with_reducible refine gate_dst (N := 158) rfl ?_); (try (refine gate_guard (by rfl) ?_; dsimp only)); refine Kd.event_run rfl (load_run 27 (.tmp 2) rfl ⟨g, 0, none⟩ (by go_simp) [.string P.f0, .int .i64 P.f1, .slice B2 P.f2.length d2, .slice B3 P.f3.length d3, .slice B4 P.f4.length d4, .int .i64 P.f5, .slice B6 P.f6.length d6, .slice B7 P.f7.length d7, .slice B8 P.f8.length d8, .slice B9 P.f9.length d9] (fun w => Tryd.sizeOf27 w) Tryd.isAgg27 (blk_list BP.out)) ?_))
          refine (equal_weak P P _ _ wb HKT.out HKP.out).mono ?_
          rintro e wc ⟨b, rfl, hbt, hV⟩
          have n_BP := Aside0.mk (blk_below BP.out hV)
          have n_BE := Aside0.mk (blk_below BE.out hV)
          have n_BA := Aside0.mk (blk_below BA.out hV)
          have n_BB := Aside0.mk (blk_below BB.out hV)
          have n_BT := Aside0.mk (blk_below BT.out hV)
          have n_HKP := Aside0.mk (k27.K_below hV HKP.out)
          have n_HKE := Aside0.mk (k32.K_below hV HKE.out)
          have n_HRK := Aside0.mk (k30.K_below hV HRK.out)
          have n_HKQ := Aside0.mk (k27.K_below hV HKQ.out)
          have n_HKT := Aside0.mk (k27.K_below hV HKT.out)
          have n_HB := Aside0.mk (HB.out.trans (Below.mono hV HB.out.size))
          clear BP BE BA BB BT HKP HKE HRK HKQ HKT HB
          have BP := n_BP
          have BE := n_BE
          have BA := n_BA
          have BB := n_BB
          have BT := n_BT
          have HKP := n_HKP
          have HKE := n_HKE
          have HRK := n_HRK
          have HKQ := n_HKQ
          have HKT := n_HKT
          have HB := n_HB
          clear n_BP n_BE n_BA n_BB n_BT n_HKP n_HKE n_HRK n_HKQ n_HKT n_HB
          obtain rfl := hbt rfl
          clear hV hbt
          go_wp2_with fail
          refine (known_any _ (Glob_below HG.out HB.out)).mono ?_
          rintro e wz ⟨rfl, hz⟩
          have hBz := HB.out.trans (Below.mono hz HB.out.size)
          go_wp2_with fail
          go_ret
          exact ⟨rfl, hBz⟩
        · skip
          have xBP2 : w5.cell? ⟨g, 2, none⟩ = some (.slice B2 P.f2.length d2) := (blk_cell BP.out 2).trans rfl
          have xBP9 : w5.cell? ⟨g, 9, none⟩ = some (.slice B9 P.f9.length d9) := (blk_cell BP.out 9).trans rfl
          have xBE0 : w5.cell? ⟨g2, 0, none⟩ = some (.int .i64 E.f0) := (blk_cell BE.out 0).trans rfl
          have xBE1 : w5.cell? ⟨g2, 1, none⟩ = some (.int .i64 E.f1) := (blk_cell BE.out 1).trans rfl
          have xBE20 : w5.cell? ⟨g2, 20, none⟩ = some (.int .i64 E.f3) := (blk_cell BE.out 20).trans rfl
          have xBE21 : w5.cell? ⟨g2, 21, none⟩ = some (.string E.f4) := (blk_cell BE.out 21).trans rfl
          have xBA9 : w5.cell? ⟨g5, 9, none⟩ = some (.slice U9 Q.f9.length u9) := (blk_cell BA.out 9).trans rfl
          have k2 : (E.f0 == 2) = false := by rw [hk]; rfl
          have k3 : (E.f0 == 3) = false := by rw [hk]; rfl
          have k4 : (E.f0 == 4) = false := by rw [hk]; rfl
          have k5 : (E.f0 == 5) = false := by rw [hk]; rfl
          have k6 : (E.f0 == 6) = true := by rw [hk]; rfl
          obtain ⟨hr0, hr1⟩ := hrng.2 hk
          have dd1 : decide (E.f3 < 0) = false := decide_eq_false (by omega)
          have dd2 : decide ((P.f2.length : Int) ≤ E.f3) = false := decide_eq_false (by omega)
          go_wp2_with ((with_reducible refine gate_dst (N := 8) rfl ?_); refine new_event rfl rfl #[.int .i64 0, .int .i64 0, .string (⟨#[]⟩ : ByteArray), .int .i64 0, .int .i64 0, .int .i64 0, .int .i64 0, .int .i64 0, .slice none 0 0, .slice none 0 0, .slice none 0 0, .slice none 0 0, .int .i64 0, .int .i64 0, .slice none 0 0, .int .i64 0, .slice none 0 0, .slice none 0 0, .slice none 0 0, .int .i64 0, .int .i64 0, .string (⟨#[]⟩ : ByteArray)] #[.int .i64 3, .int .i64 P.f9.length, .string (⟨#[]⟩ : ByteArray), .int .i64 0, .int .i64 0, .int .i64 0, .int .i64 0, .int .i64 0, .slice none 0 0, .slice none 0 0, .slice none 0 0, .slice none 0 0, .int .i64 0, .int .i64 0, .slice none 0 0, .int .i64 0, .slice none 0 0, .slice none 0 0, .slice none 0 0, .int .i64 0, .int .i64 0, .string (⟨#[]⟩ : ByteArray)] 32 (by first | (go_simp; done) | (go_simp; rfl)) rfl rfl (.tmp 8) (.tmp 83) rfl (by go_simp) (by first | (go_simp; done) | (go_simp; rfl)) (by kernel_rfl) rfl (by simp [Value.oneCell']) ?_; intro g8 hg8 w6 hb8 hV; refine Halt.go ?_)
          unfold Halt
          have hb8l : w5.heap.size ≤ g8 := by rw [hg8]; exact Nat.le_refl _
          clear hg8 xBP2 xBP9 xBE0 xBE1 xBE20 xBE21 xBA9
          have HV6 := Aside0.mk hV
          have BB := Aside0.mk hb8
          clear hV hb8
          have xBP2 : w6.cell? ⟨g, 2, none⟩ = some (.slice B2 P.f2.length d2) := (blk_cell (blk_below BP.out HV6.out) 2).trans rfl
          have xBP9 : w6.cell? ⟨g, 9, none⟩ = some (.slice B9 P.f9.length d9) := (blk_cell (blk_below BP.out HV6.out) 9).trans rfl
          have xBE0 : w6.cell? ⟨g2, 0, none⟩ = some (.int .i64 E.f0) := (blk_cell (blk_below BE.out HV6.out) 0).trans rfl
          have xBE1 : w6.cell? ⟨g2, 1, none⟩ = some (.int .i64 E.f1) := (blk_cell (blk_below BE.out HV6.out) 1).trans rfl
          have xBE20 : w6.cell? ⟨g2, 20, none⟩ = some (.int .i64 E.f3) := (blk_cell (blk_below BE.out HV6.out) 20).trans rfl
          have xBE21 : w6.cell? ⟨g2, 21, none⟩ = some (.string E.f4) := (blk_cell (blk_below BE.out HV6.out) 21).trans rfl
          have xBA9 : w6.cell? ⟨g5, 9, none⟩ = some (.slice U9 Q.f9.length u9) := (blk_cell (blk_below BA.out HV6.out) 9).trans rfl
          obtain ⟨ad, cr, hB2, hcl, hKs, hX⟩ := Kd.C_get (Kd.C_below G2.out (HB.out.trans (HV6.out.mono HB.out.size))) ByteArray.empty E.f3 hr0 hr1
          subst hB2
          obtain ⟨sn, hsn⟩ : ∃ sn, sn = P.f2.getD E.f3.toNat ByteArray.empty := ⟨_, rfl⟩
          rw [← hsn] at hKs
          have HSN := Aside0.mk hsn
          have hKs2 : cr = [.string sn] := hKs
          subst hKs2
          have x8 : w6.cell? (ad.add E.f3.toNat) = some (.string sn) := by simpa [Kd.string, Kd.scalar] using hX 0 _ rfl
          clear hKs hX hsn hcl
          go_upto_region 21 with (fail)
          refine start_ (n := 10) (S := fun w' => w'.cell? ⟨g, 2, none⟩ = some (.slice (some ad) P.f2.length d2) ∧ w'.cell? ⟨g2, 20, none⟩ = some (.int .i64 E.f3) ∧ w'.cell? (ad.add E.f3.toNat) = some (.string sn)) (ds := [9]) #[false, false, false, false, false, false, false, false, false, false] (by kernel_rfl) rfl rfl ⟨xBP2, xBE20, x8⟩ (fun hHeld => ?_)
          refine with_tabW back.tab21 back.bits21 (fun HT_ HW_ => ?_)
          refine pure_ (i := 0) (N := some 139) (v := ?_) (a' := ?_) #[true, false, false, false, false, false, false, false, false, false] rfl rfl (any_of HT_.out (by kernel_rfl)) (fun _ _ _ h => h) (Or.inl ⟨by rfl, ?_⟩) ?_ ?_
          rotate_left
          · intro w'
            go_simp
            with_reducible rfl
          rotate_left
          · simp only [Act.put, List.setIfInBounds_toArray, List.set_cons_zero, List.set_cons_succ, i64_w, i32_w]
            rfl
          refine pure_ (i := 2) (N := some 141) (v := ?_) (a' := ?_) #[true, false, true, false, false, false, false, false, false, false] rfl rfl (any_of HT_.out (by kernel_rfl)) (fun _ _ _ h => h) (Or.inl ⟨by rfl, ?_⟩) ?_ ?_
          rotate_left
          · intro w'
            go_simp
            with_reducible rfl
          rotate_left
          · simp only [Act.put, List.setIfInBounds_toArray, List.set_cons_zero, List.set_cons_succ, i64_w, i32_w]
            rfl
          refine pure_ (i := 4) (N := some 143) (v := ?_) (a' := ?_) #[true, false, true, false, true, false, false, false, false, false] rfl rfl (any_of HT_.out (by kernel_rfl)) (fun _ _ _ h => h) (Or.inl ⟨by rfl, ?_⟩) ?_ ?_
          rotate_left
          · intro w'
            go_simp
            with_reducible rfl
          rotate_left
          · simp only [Act.put, List.setIfInBounds_toArray, List.set_cons_zero, List.set_cons_succ, i64_w, i32_w]
            rfl
          refine take_ (i := 1) (N := some 140) (v := ?_) (a' := ?_) #[true, true, true, false, true, false, false, false, false, false] rfl rfl (take_ofW HT_.out HW_.out (by kernel_rfl)) (fun _ _ _ h => h) (Or.inl ⟨by rfl, ?_⟩) hHeld ?_ ?_
          rotate_left
          · rintro w' ⟨s0, s1, s2⟩
            go_simp
            with_reducible rfl
          rotate_left
          · simp only [Act.put, List.setIfInBounds_toArray, List.set_cons_zero, List.set_cons_succ, i64_w, i32_w]
            rfl
          refine take_ (i := 3) (N := some 142) (v := ?_) (a' := ?_) #[true, true, true, true, true, false, false, false, false, false] rfl rfl (take_ofW HT_.out HW_.out (by kernel_rfl)) (fun _ _ _ h => h) (Or.inl ⟨by rfl, ?_⟩) hHeld ?_ ?_
          rotate_left
          · rintro w' ⟨s0, s1, s2⟩
            go_simp
            with_reducible rfl
          rotate_left
          · simp only [Act.put, List.setIfInBounds_toArray, List.set_cons_zero, List.set_cons_succ, i64_w, i32_w]
            rfl
          refine take_ (i := 5) (N := some 144) (v := ?_) (a' := ?_) #[true, true, true, true, true, true, false, false, false, false] rfl rfl (take_ofW HT_.out HW_.out (by kernel_rfl)) (fun _ _ _ h => h) (Or.inl ⟨by rfl, ?_⟩) hHeld ?_ ?_
          rotate_left
          · rintro w' ⟨s0, s1, s2⟩
            go_simp
            with_reducible rfl
          rotate_left
          · simp only [Act.put, List.setIfInBounds_toArray, List.set_cons_zero, List.set_cons_succ, i64_w, i32_w]
            rfl
          refine pure_ (i := 6) (N := some 145) (v := ?_) (a' := ?_) #[true, true, true, true, true, true, true, false, false, false] rfl rfl (any_of HT_.out (by kernel_rfl)) (fun _ _ _ h => h) (Or.inl ⟨by rfl, ?_⟩) ?_ ?_
          rotate_left
          · intro w'
            go_simp
            with_reducible rfl
          rotate_left
          · simp only [Act.put, List.setIfInBounds_toArray, List.set_cons_zero, List.set_cons_succ, i64_w, i32_w]
            rfl
          refine take_ (i := 7) (N := some 146) (v := ?_) (a' := ?_) #[true, true, true, true, true, true, true, true, false, false] rfl rfl (take_ofW HT_.out HW_.out (by kernel_rfl)) (fun _ _ _ h => h) (Or.inl ⟨by rfl, ?_⟩) hHeld ?_ ?_
          rotate_left
          · rintro w' ⟨s0, s1, s2⟩
            go_simp
            with_reducible rfl
          rotate_left
          · simp only [Act.put, List.setIfInBounds_toArray, List.set_cons_zero, List.set_cons_succ, i64_w, i32_w]
            rfl
          refine pure_ (i := 8) (N := some 147) (v := ?_) (a' := ?_) #[true, true, true, true, true, true, true, true, true, false] rfl rfl (any_of HT_.out (by kernel_rfl)) (fun _ _ _ h => h) (Or.inl ⟨by rfl, ?_⟩) ?_ ?_
          rotate_left
          · intro w'
            go_simp
            with_reducible rfl
          rotate_left
          · simp only [Act.put, List.setIfInBounds_toArray, List.set_cons_zero, List.set_cons_succ, i64_w, i32_w]
            rfl
          refine last_ (i := 9) (N := none) #[true, true, true, true, true, true, true, true, true, true] rfl rfl (one_of HT_.out (by kernel_rfl)) (by decide) (fun K hK => ?_)
          refine skip_ (w1 := w6.drew.setCells g8 0 [.int .i64 6, .int .i64 0, .string (⟨#[]⟩ : ByteArray), .int .i64 0, .int .i64 0, .int .i64 0, .int .i64 0, .int .i64 0, .slice none 0 0, .slice none 0 0, .slice none 0 0, .slice none 0 0, .int .i64 0, .int .i64 0, .slice none 0 0, .int .i64 0, .slice none 0 0, .slice none 0 0, .slice none 0 0, .int .i64 0, .int .i64 E.f3, .string sn]) (by rfl) rfl (store_run 32 (.tmp 8) (.tmp 147) rfl g8 0 #[.int .i64 6, .int .i64 0, .string (⟨#[]⟩ : ByteArray), .int .i64 0, .int .i64 0, .int .i64 0, .int .i64 0, .int .i64 0, .slice none 0 0, .slice none 0 0, .slice none 0 0, .slice none 0 0, .int .i64 0, .int .i64 0, .slice none 0 0, .int .i64 0, .slice none 0 0, .slice none 0 0, .slice none 0 0, .int .i64 0, .int .i64 E.f3, .string sn] ?kx ?ky (fun j hj => ?kt) (by kernel_rfl) (by simp [Value.oneCell'])) ?_
          case kx => go_simp
          case ky => first | (go_simp; done) | (go_simp; rfl)
          case kt => rw [Nat.zero_add]; have hj2 : j < (#[.int .i64 3, .int .i64 P.f9.length, .string (⟨#[]⟩ : ByteArray), .int .i64 0, .int .i64 0, .int .i64 0, .int .i64 0, .int .i64 0, .slice none 0 0, .slice none 0 0, .slice none 0 0, .slice none 0 0, .int .i64 0, .int .i64 0, .slice none 0 0, .int .i64 0, .slice none 0 0, .slice none 0 0, .slice none 0 0, .int .i64 0, .int .i64 0, .string (⟨#[]⟩ : ByteArray)] : Array Value).size := hj; exact ⟨by rw [blk_cell (blk_drew BB.out) j, Array.getElem?_eq_getElem hj2]; rfl, blk_frozen (blk_drew BB.out) j⟩
          refine hK.out _ _ ?_
          clear hK K
          refine done_ (done_of HT_.out (by kernel_rfl)) ?_
          obtain ⟨hb7, hm7, hB7⟩ := sets_all (cs := #[.int .i64 6, .int .i64 0, .string (⟨#[]⟩ : ByteArray), .int .i64 0, .int .i64 0, .int .i64 0, .int .i64 0, .int .i64 0, .slice none 0 0, .slice none 0 0, .slice none 0 0, .slice none 0 0, .int .i64 0, .int .i64 0, .slice none 0 0, .int .i64 0, .slice none 0 0, .slice none 0 0, .slice none 0 0, .int .i64 0, .int .i64 E.f3, .string sn]) (blk_drew BB.out) rfl
          obtain ⟨w7, hw7⟩ : ∃ w7, w7 = w6.drew.setCells g8 0 [.int .i64 6, .int .i64 0, .string (⟨#[]⟩ : ByteArray), .int .i64 0, .int .i64 0, .int .i64 0, .int .i64 0, .int .i64 0, .slice none 0 0, .slice none 0 0, .slice none 0 0, .slice none 0 0, .int .i64 0, .int .i64 0, .slice none 0 0, .int .i64 0, .slice none 0 0, .slice none 0 0, .slice none 0 0, .int .i64 0, .int .i64 E.f3, .string sn] := ⟨_, rfl⟩
          have hb7 : w7.heap[g8]? = some (.cells #[.int .i64 6, .int .i64 0, .string (⟨#[]⟩ : ByteArray), .int .i64 0, .int .i64 0, .int .i64 0, .int .i64 0, .int .i64 0, .slice none 0 0, .slice none 0 0, .slice none 0 0, .slice none 0 0, .int .i64 0, .int .i64 0, .slice none 0 0, .int .i64 0, .slice none 0 0, .slice none 0 0, .slice none 0 0, .int .i64 0, .int .i64 E.f3, .string sn] 32 (0, 0)) := by rw [hw7]; exact hb7
          have HV7 : Aside0 (Below w5.heap.size w5 w7) := ⟨by rw [hw7]; exact hB7 _ _ HV6.out.drew hb8l⟩
          rw [← hw7]
          clear BB hm7 hB7 hw7 x8 xBP2 xBP9 xBE0 xBE1 xBE20 xBE21 xBA9
          have BB := Aside0.mk hb7
          clear hb7
          have n_BP := Aside0.mk (blk_below BP.out HV7.out)
          have n_BE := Aside0.mk (blk_below BE.out HV7.out)
          have n_BA := Aside0.mk (blk_below BA.out HV7.out)
          have n_HKP := Aside0.mk (k27.K_below HV7.out HKP.out)
          have n_HKE := Aside0.mk (k32.K_below HV7.out HKE.out)
          have n_HRK := Aside0.mk (k30.K_below HV7.out HRK.out)
          have n_HKQ := Aside0.mk (k27.K_below HV7.out HKQ.out)
          have n_HB := Aside0.mk (HB.out.trans (Below.mono HV7.out HB.out.size))
          clear BP BE BA HKP HKE HRK HKQ HB
          have BP := n_BP
          have BE := n_BE
          have BA := n_BA
          have HKP := n_HKP
          have HKE := n_HKE
          have HRK := n_HRK
          have HKQ := n_HKQ
          have HB := n_HB
          clear n_BP n_BE n_BA n_HKP n_HKE n_HRK n_HKQ n_HB
          have xBP2 : w7.cell? ⟨g, 2, none⟩ = some (.slice (some ad) P.f2.length d2) := (blk_cell BP.out 2).trans rfl
          have xBP9 : w7.cell? ⟨g, 9, none⟩ = some (.slice B9 P.f9.length d9) := (blk_cell BP.out 9).trans rfl
          have xBE0 : w7.cell? ⟨g2, 0, none⟩ = some (.int .i64 E.f0) := (blk_cell BE.out 0).trans rfl
          have xBE1 : w7.cell? ⟨g2, 1, none⟩ = some (.int .i64 E.f1) := (blk_cell BE.out 1).trans rfl
          have xBE20 : w7.cell? ⟨g2, 20, none⟩ = some (.int .i64 E.f3) := (blk_cell BE.out 20).trans rfl
          have xBE21 : w7.cell? ⟨g2, 21, none⟩ = some (.string E.f4) := (blk_cell BE.out 21).trans rfl
          have xBA9 : w7.cell? ⟨g5, 9, none⟩ = some (.slice U9 Q.f9.length u9) := (blk_cell BA.out 9).trans rfl
          have HBK := Aside0.mk (k32_of (x := ⟨6, 0, z30, E.f3, sn⟩) (k30_z w7))
          have hab : appl validE Q ⟨6, 0, z30, E.f3, sn⟩ = some P := by have := appl_back validE (fun P h => (validE_sorted h).1) z30 HAP.out (by omega); rw [show backOf P z30 E = ⟨6, 0, z30, E.f3, sn⟩ from by unfold backOf; rw [if_neg (by omega), if_neg (by omega), if_neg (by omega), if_neg (by omega), if_pos (by omega), ← HSN.out]] at this; exact this
          have HAB := Aside0.mk hab
          clear hab
          go_wp2_with (first | ((with_reducible refine gate_dst (N := 149) rfl ?_); (try (refine gate_guard (by rfl) ?_; dsimp only)); refine Kd.event_run rfl (load_run 27 (.tmp 5) rfl ⟨g5, 0, none⟩ (by go_simp) [.string Q.f0, .int .i64 Q.f1, .slice U2 Q.f2.length u2, .slice U3 Q.f3.length u3, .slice U4 Q.f4.length u4, .int .i64 Q.f5, .slice U6 Q.f6.length u6, .slice U7 Q.f7.length u7, .slice U8 Q.f8.length u8, .slice U9 Q.f9.length u9] (fun w => Tryd.sizeOf27 w) Tryd.isAgg27 (blk_list BA.out)) ?_) | ((with_reducible refine gate_dst (N := 150) rfl ?_); (try (refine gate_guard (by rfl) ?_; dsimp only)); refine Kd.event_run rfl (load_run 32 (.tmp 8) rfl ⟨g8, 0, none⟩ (by go_simp) [.int .i64 6, .int .i64 0, .string (⟨#[]⟩ : ByteArray), .int .i64 0, .int .i64 0, .int .i64 0, .int .i64 0, .int .i64 0, .slice none 0 0, .slice none 0 0, .slice none 0 0, .slice none 0 0, .int .i64 0, .int .i64 0, .slice none 0 0, .int .i64 0, .slice none 0 0, .slice none 0 0, .slice none 0 0, .int .i64 0, .int .i64 E.f3, .string sn] (fun w => Tryd.sizeOf32 w) Tryd.isAgg32 (blk_list BB.out)) ?_))
          clear xBP2 xBP9 xBE0 xBE1 xBE20 xBE21 xBA9
          refine (apply_any Q ⟨6, 0, z30, E.f3, sn⟩ _ _ w7 1 (Glob_below HG.out HB.out) HKQ.out HBK.out HMQ.out (by decide) short_z30).mono ?_
          rintro e wa ⟨k, qs, rfl, hV, hm⟩
          have n_BP := Aside0.mk (blk_below BP.out hV)
          have n_BE := Aside0.mk (blk_below BE.out hV)
          have n_BA := Aside0.mk (blk_below BA.out hV)
          have n_BB := Aside0.mk (blk_below BB.out hV)
          have n_HKP := Aside0.mk (k27.K_below hV HKP.out)
          have n_HKE := Aside0.mk (k32.K_below hV HKE.out)
          have n_HRK := Aside0.mk (k30.K_below hV HRK.out)
          have n_HKQ := Aside0.mk (k27.K_below hV HKQ.out)
          have n_HB := Aside0.mk (HB.out.trans (Below.mono hV HB.out.size))
          clear BP BE BA BB HKP HKE HRK HKQ HB
          have BP := n_BP
          have BE := n_BE
          have BA := n_BA
          have BB := n_BB
          have HKP := n_HKP
          have HKE := n_HKE
          have HRK := n_HRK
          have HKQ := n_HKQ
          have HB := n_HB
          clear n_BP n_BE n_BA n_BB n_HKP n_HKE n_HRK n_HKQ n_HB
          rw [HAB.out] at hm
          obtain ⟨rfl, hkt⟩ := hm
          have HKT := Aside0.mk hkt
          obtain ⟨T2, t2, T3, t3, T4, t4, T6, t6, T7, t7, T8, t8, T9, t9, rfl, _⟩ := k27_open hkt
          clear hV hkt
          go_wp2_with ((with_reducible refine gate_dst (N := 9) rfl ?_); refine new_event rfl rfl #[.string (⟨#[]⟩ : ByteArray), .int .i64 0, .slice none 0 0, .slice none 0 0, .slice none 0 0, .int .i64 0, .slice none 0 0, .slice none 0 0, .slice none 0 0, .slice none 0 0] #[.string P.f0, .int .i64 P.f1, .slice T2 P.f2.length t2, .slice T3 P.f3.length t3, .slice T4 P.f4.length t4, .int .i64 P.f5, .slice T6 P.f6.length t6, .slice T7 P.f7.length t7, .slice T8 P.f8.length t8, .slice T9 P.f9.length t9] 27 (by first | (go_simp; done) | (go_simp; rfl)) rfl rfl (.tmp 9) (.tmp 152) rfl (by go_simp) (by first | (go_simp; done) | (go_simp; rfl)) (by kernel_rfl) rfl (by simp [Value.oneCell']) ?_; intro g9 hg9 wb hb9 hV; refine Halt.go ?_)
          unfold Halt
          clear hg9
          have n_BP := Aside0.mk (blk_below BP.out hV)
          have n_BE := Aside0.mk (blk_below BE.out hV)
          have n_BA := Aside0.mk (blk_below BA.out hV)
          have n_BB := Aside0.mk (blk_below BB.out hV)
          have n_HKP := Aside0.mk (k27.K_below hV HKP.out)
          have n_HKE := Aside0.mk (k32.K_below hV HKE.out)
          have n_HRK := Aside0.mk (k30.K_below hV HRK.out)
          have n_HKQ := Aside0.mk (k27.K_below hV HKQ.out)
          have n_HKT := Aside0.mk (k27.K_below hV HKT.out)
          have n_HB := Aside0.mk (HB.out.trans (Below.mono hV HB.out.size))
          clear BP BE BA BB HKP HKE HRK HKQ HKT HB
          have BP := n_BP
          have BE := n_BE
          have BA := n_BA
          have BB := n_BB
          have HKP := n_HKP
          have HKE := n_HKE
          have HRK := n_HRK
          have HKQ := n_HKQ
          have HKT := n_HKT
          have HB := n_HB
          clear n_BP n_BE n_BA n_BB n_HKP n_HKE n_HRK n_HKQ n_HKT n_HB
          have BT := Aside0.mk hb9
          clear hV hb9
          go_wp2_with (first | ((with_reducible refine gate_dst (N := 157) rfl ?_); (try (refine gate_guard (by rfl) ?_; dsimp only)); refine Kd.event_run rfl (load_run 27 (.tmp 9) rfl ⟨g9, 0, none⟩ (by go_simp) [.string P.f0, .int .i64 P.f1, .slice T2 P.f2.length t2, .slice T3 P.f3.length t3, .slice T4 P.f4.length t4, .int .i64 P.f5, .slice T6 P.f6.length t6, .slice T7 P.f7.length t7, .slice T8 P.f8.length t8, .slice T9 P.f9.length t9] (fun w => Tryd.sizeOf27 w) Tryd.isAgg27 (blk_list BT.out)) ?_) | ((with_reducible refine gate_dst (N := 158) rfl ?_); (try (refine gate_guard (by rfl) ?_; dsimp only)); refine Kd.event_run rfl (load_run 27 (.tmp 2) rfl ⟨g, 0, none⟩ (by go_simp) [.string P.f0, .int .i64 P.f1, .slice (some ad) P.f2.length d2, .slice B3 P.f3.length d3, .slice B4 P.f4.length d4, .int .i64 P.f5, .slice B6 P.f6.length d6, .slice B7 P.f7.length d7, .slice B8 P.f8.length d8, .slice B9 P.f9.length d9] (fun w => Tryd.sizeOf27 w) Tryd.isAgg27 (blk_list BP.out)) ?_))
          refine (equal_weak P P _ _ wb HKT.out HKP.out).mono ?_
          rintro e wc ⟨b, rfl, hbt, hV⟩
          have n_BP := Aside0.mk (blk_below BP.out hV)
          have n_BE := Aside0.mk (blk_below BE.out hV)
          have n_BA := Aside0.mk (blk_below BA.out hV)
          have n_BB := Aside0.mk (blk_below BB.out hV)
          have n_BT := Aside0.mk (blk_below BT.out hV)
          have n_HKP := Aside0.mk (k27.K_below hV HKP.out)
          have n_HKE := Aside0.mk (k32.K_below hV HKE.out)
          have n_HRK := Aside0.mk (k30.K_below hV HRK.out)
          have n_HKQ := Aside0.mk (k27.K_below hV HKQ.out)
          have n_HKT := Aside0.mk (k27.K_below hV HKT.out)
          have n_HB := Aside0.mk (HB.out.trans (Below.mono hV HB.out.size))
          clear BP BE BA BB BT HKP HKE HRK HKQ HKT HB
          have BP := n_BP
          have BE := n_BE
          have BA := n_BA
          have BB := n_BB
          have BT := n_BT
          have HKP := n_HKP
          have HKE := n_HKE
          have HRK := n_HRK
          have HKQ := n_HKQ
          have HKT := n_HKT
          have HB := n_HB
          clear n_BP n_BE n_BA n_BB n_BT n_HKP n_HKE n_HRK n_HKQ n_HKT n_HB
          obtain rfl := hbt rfl
          clear hV hbt
          go_wp2_with fail
          refine (known_any _ (Glob_below HG.out HB.out)).mono ?_
          rintro e wz ⟨rfl, hz⟩
          have hBz := HB.out.trans (Below.mono hz HB.out.size)
          go_wp2_with fail
          go_ret
          exact ⟨rfl, hBz⟩
end Go.Proofs.YtoggkfapdomhgaaDoor.Pr
