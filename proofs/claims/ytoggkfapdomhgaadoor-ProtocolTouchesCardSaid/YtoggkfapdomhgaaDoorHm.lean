/- Contracts of copyRule and copyOf; conditions: each theorem's own premises. -/
import Derived.Test.YtoggkfapdomhgaaDoorEv
import Derived.Test.YtoggkfapdomhgaaDoorHl
namespace Go.Proofs.YtoggkfapdomhgaaDoor.Pr
open Go.RowKit Go.Proofs.YtoggkfapdomhgaaDoorW.PrintWords Go.Proofs.YtoggkfapdomhgaaDoorW.PrintLast Go.Proofs.YtoggkfapdomhgaaDoorW.PrintMore
set_option linter.unusedVariables false
set_option linter.unusedSimpArgs false
set_option maxRecDepth 100000
def copyRule.T1 : Bool × List (List Nat × List Nat) := (true, [([], []), ([0], [0]), ([1], [1]), ([], []), ([3], [3]), ([4, 2], [4]), ([], []), ([6], [6]), ([7, 5], [7]), ([], []), ([9], [9]), ([10, 8], [10]), ([0, 1, 2, 3, 4, 6, 7, 9, 10], []), ([12, 2, 11, 0, 1, 2, 3, 4, 6, 7, 9, 10], [2, 12]), ([0, 1, 2, 3, 4, 5, 6, 7, 9, 10, 12, 13], []), ([14, 5, 13, 0, 1, 2, 3, 4, 5, 6, 7, 9, 10, 12, 13], [5, 14]), ([0, 1, 2, 3, 4, 5, 6, 7, 8, 9, 10, 12, 13, 14, 15], []), ([16, 8, 15, 0, 1, 2, 3, 4, 5, 6, 7, 8, 9, 10, 12, 13, 14, 15], [8, 16]), ([0, 1, 2, 3, 4, 5, 6, 7, 8, 9, 10, 11, 12, 13, 14, 15, 16, 17], []), ([18, 11, 17, 0, 1, 2, 3, 4, 5, 6, 7, 8, 9, 10, 11, 12, 13, 14, 15, 16, 17], [11, 18])])
def copyRule.B1 : List Nat := [0, 1, 3, 0, 8, 31, 0, 64, 255, 0, 512, 2047, 1759, 8191, 16383, 32767, 65535, 131071, 262143, 524287]
theorem copyRule.tab1 : rtab .any (opsOf Tryd.f41 1) = copyRule.T1 := by kernel_rfl
theorem copyRule.bits1 : waitsOk copyRule.T1.2 copyRule.B1 = true := by kernel_rfl
def copyRule.T2 : Bool × List (List Nat × List Nat) := (true, [([], []), ([0], [0]), ([1], [1]), ([], []), ([3], [3]), ([4, 2], [4]), ([], []), ([6], [6]), ([7, 5], [7]), ([], []), ([9], [9]), ([10, 8], [10]), ([0, 1, 2, 3, 4, 6, 7, 9, 10], []), ([12, 2, 11, 0, 1, 2, 3, 4, 6, 7, 9, 10], [2, 12]), ([0, 1, 2, 3, 4, 5, 6, 7, 9, 10, 12, 13], []), ([14, 5, 13, 0, 1, 2, 3, 4, 5, 6, 7, 9, 10, 12, 13], [5, 14]), ([0, 1, 2, 3, 4, 5, 6, 7, 8, 9, 10, 12, 13, 14, 15], []), ([16, 8, 15, 0, 1, 2, 3, 4, 5, 6, 7, 8, 9, 10, 12, 13, 14, 15], [8, 16]), ([0, 1, 2, 3, 4, 5, 6, 7, 8, 9, 10, 11, 12, 13, 14, 15, 16, 17], []), ([18, 11, 17, 0, 1, 2, 3, 4, 5, 6, 7, 8, 9, 10, 11, 12, 13, 14, 15, 16, 17], [11, 18])])
def copyRule.B2 : List Nat := [0, 1, 3, 0, 8, 31, 0, 64, 255, 0, 512, 2047, 1759, 8191, 16383, 32767, 65535, 131071, 262143, 524287]
theorem copyRule.tab2 : rtab .any (opsOf Tryd.f41 2) = copyRule.T2 := by kernel_rfl
theorem copyRule.bits2 : waitsOk copyRule.T2.2 copyRule.B2 = true := by kernel_rfl
set_option maxHeartbeats 8000000 in
theorem copyRule_any (R : S30) (cs : List Value) (w : World) (hK : k30.K w R cs) (hl : ruleSum R ≤ 1000000) :
    Calls Tryd.prog 41 #[.agg cs.toArray] w fun e w' => ∃ cs', e = .returned (.agg cs'.toArray) ∧ k30.M w' w.heap.size (fun _ => True) R cs' ∧ Below w.heap.size w w' := by
  obtain ⟨A6, c6, A7, c7, A8, c8, A9, c9, A12, c12, A14, c14, A15, c15, A16, c16, rfl, l6, g6, l7, g7, l8, g8, l9, g9, l12, g12, l14, g14, l15, g15, l16, g16⟩ := k30_open hK
  unfold ruleSum at hl
  have G6 := Aside0.mk g6
  have q6 : Aside0 (clone_int.f R.f6 = some R.f6) := ⟨by unfold clone_int.f; exact if_pos (by omega)⟩
  have G7 := Aside0.mk g7
  have q7 : Aside0 (clone_threshold.f R.f7 = some R.f7) := ⟨by unfold clone_threshold.f; exact if_pos (by omega)⟩
  have G8 := Aside0.mk g8
  have q8 : Aside0 (clone_int.f R.f8 = some R.f8) := ⟨by unfold clone_int.f; exact if_pos (by omega)⟩
  have G9 := Aside0.mk g9
  have q9 : Aside0 (clone_int.f R.f9 = some R.f9) := ⟨by unfold clone_int.f; exact if_pos (by omega)⟩
  have G12 := Aside0.mk g12
  have q12 : Aside0 (clone_int.f R.f12 = some R.f12) := ⟨by unfold clone_int.f; exact if_pos (by omega)⟩
  have G14 := Aside0.mk g14
  have q14 : Aside0 (clone_int.f R.f14 = some R.f14) := ⟨by unfold clone_int.f; exact if_pos (by omega)⟩
  have G15 := Aside0.mk g15
  have q15 : Aside0 (clone_int.f R.f15 = some R.f15) := ⟨by unfold clone_int.f; exact if_pos (by omega)⟩
  have G16 := Aside0.mk g16
  have q16 : Aside0 (clone_int.f R.f16 = some R.f16) := ⟨by unfold clone_int.f; exact if_pos (by omega)⟩
  clear hK hl g6 g7 g8 g9 g12 g14 g15 g16
  go_enter Tryd.func41, Tryd.ntmps41
  go_upto_region 1 with (fail)
  obtain ⟨g, hg⟩ : ∃ g, g = w.heap.size := ⟨_, rfl⟩
  obtain ⟨g2, hg2e⟩ : ∃ g2, g2 = w.heap.size + 1 := ⟨_, rfl⟩
  obtain ⟨w1, hw1⟩ : ∃ w1, w1 = (w.alloc (.cells #[.string R.f0, .int .i64 R.f1, .int .i64 R.f2, .int .i64 R.f3, .int .i64 R.f4, .int .i64 R.f5, .slice A6 R.f6.length c6, .slice A7 R.f7.length c7, .slice A8 R.f8.length c8, .slice A9 R.f9.length c9, .int .i64 R.f10, .int .i64 R.f11, .slice A12 R.f12.length c12, .int .i64 R.f13, .slice A14 R.f14.length c14, .slice A15 R.f15.length c15, .slice A16 R.f16.length c16, .int .i64 R.f17] 30)).alloc (.cells #[.string (⟨#[]⟩ : ByteArray), .int .i64 0, .int .i64 0, .int .i64 0, .int .i64 0, .int .i64 0, .slice none 0 0, .slice none 0 0, .slice none 0 0, .slice none 0 0, .int .i64 0, .int .i64 0, .slice none 0 0, .int .i64 0, .slice none 0 0, .slice none 0 0, .slice none 0 0, .int .i64 0] 30) := ⟨_, rfl⟩
  rw [← hw1]
  have BP : Aside0 (w1.heap[g]? = some (.cells #[.string R.f0, .int .i64 R.f1, .int .i64 R.f2, .int .i64 R.f3, .int .i64 R.f4, .int .i64 R.f5, .slice A6 R.f6.length c6, .slice A7 R.f7.length c7, .slice A8 R.f8.length c8, .slice A9 R.f9.length c9, .int .i64 R.f10, .int .i64 R.f11, .slice A12 R.f12.length c12, .int .i64 R.f13, .slice A14 R.f14.length c14, .slice A15 R.f15.length c15, .slice A16 R.f16.length c16, .int .i64 R.f17] 30 (0, 0))) := ⟨by rw [hw1, hg]; exact blk_alloc (heap_alloc_new w _) _⟩
  have BQ : Aside0 (w1.heap[g2]? = some (.cells #[.string (⟨#[]⟩ : ByteArray), .int .i64 0, .int .i64 0, .int .i64 0, .int .i64 0, .int .i64 0, .slice none 0 0, .slice none 0 0, .slice none 0 0, .slice none 0 0, .int .i64 0, .int .i64 0, .slice none 0 0, .int .i64 0, .slice none 0 0, .slice none 0 0, .slice none 0 0, .int .i64 0] 30 (0, 0))) := ⟨by rw [hw1, hg2e, show w.heap.size + 1 = (w.alloc (.cells #[.string R.f0, .int .i64 R.f1, .int .i64 R.f2, .int .i64 R.f3, .int .i64 R.f4, .int .i64 R.f5, .slice A6 R.f6.length c6, .slice A7 R.f7.length c7, .slice A8 R.f8.length c8, .slice A9 R.f9.length c9, .int .i64 R.f10, .int .i64 R.f11, .slice A12 R.f12.length c12, .int .i64 R.f13, .slice A14 R.f14.length c14, .slice A15 R.f15.length c15, .slice A16 R.f16.length c16, .int .i64 R.f17] 30)).heap.size from by simp]; exact heap_alloc_new _ _⟩
  have HB : Aside0 (Below w.heap.size w w1) := ⟨by rw [hw1]; exact ((Below.refl _ _).alloc (Nat.le_refl _) _).alloc (by simp) _⟩
  have hg1 : w.heap.size ≤ g := by omega
  have hg2 : g2 ≠ g := by omega
  have hg3 : w.heap.size ≤ g2 := by omega
  simp only [← hg2e]
  simp only [← hg]
  clear hw1 hg hg2e
  have n_BP := Aside0.mk (blk_drew BP.out)
  have n_BQ := Aside0.mk (blk_drew BQ.out)
  have n_HB := Aside0.mk (below_drew1 HB.out)
  clear BP BQ HB
  have BP := n_BP
  have BQ := n_BQ
  have HB := n_HB
  clear n_BP n_BQ n_HB
  refine start_ (n := 20) (S := fun w' => w'.cell? ⟨g, 6, none⟩ = some (.slice A6 R.f6.length c6) ∧ w'.cell? ⟨g, 7, none⟩ = some (.slice A7 R.f7.length c7) ∧ w'.cell? ⟨g, 8, none⟩ = some (.slice A8 R.f8.length c8) ∧ w'.cell? ⟨g, 9, none⟩ = some (.slice A9 R.f9.length c9)) (ds := [13, 15, 17, 19]) #[false, false, false, false, false, false, false, false, false, false, false, false, false, false, false, false, false, false, false, false] (by kernel_rfl) rfl rfl ⟨(blk_cell BP.out 6).trans rfl, (blk_cell BP.out 7).trans rfl, (blk_cell BP.out 8).trans rfl, (blk_cell BP.out 9).trans rfl⟩ (fun hHeld => ?_)
  refine with_tabW copyRule.tab1 copyRule.bits1 (fun HT_ HW_ => ?_)
  refine pure_ (i := 0) (N := some 3) (v := ?_) (a' := ?_) #[true, false, false, false, false, false, false, false, false, false, false, false, false, false, false, false, false, false, false, false] rfl rfl (any_of HT_.out (by kernel_rfl)) (fun _ _ _ h => h) (Or.inl ⟨by rfl, ?_⟩) ?_ ?_
  rotate_left
  · intro w'
    go_simp
    with_reducible rfl
  rotate_left
  · simp only [Act.put, List.setIfInBounds_toArray, List.set_cons_zero, List.set_cons_succ, i64_w, i32_w]
    rfl
  refine pure_ (i := 3) (N := some 6) (v := ?_) (a' := ?_) #[true, false, false, true, false, false, false, false, false, false, false, false, false, false, false, false, false, false, false, false] rfl rfl (any_of HT_.out (by kernel_rfl)) (fun _ _ _ h => h) (Or.inl ⟨by rfl, ?_⟩) ?_ ?_
  rotate_left
  · intro w'
    go_simp
    with_reducible rfl
  rotate_left
  · simp only [Act.put, List.setIfInBounds_toArray, List.set_cons_zero, List.set_cons_succ, i64_w, i32_w]
    rfl
  refine pure_ (i := 6) (N := some 9) (v := ?_) (a' := ?_) #[true, false, false, true, false, false, true, false, false, false, false, false, false, false, false, false, false, false, false, false] rfl rfl (any_of HT_.out (by kernel_rfl)) (fun _ _ _ h => h) (Or.inl ⟨by rfl, ?_⟩) ?_ ?_
  rotate_left
  · intro w'
    go_simp
    with_reducible rfl
  rotate_left
  · simp only [Act.put, List.setIfInBounds_toArray, List.set_cons_zero, List.set_cons_succ, i64_w, i32_w]
    rfl
  refine pure_ (i := 9) (N := some 12) (v := ?_) (a' := ?_) #[true, false, false, true, false, false, true, false, false, true, false, false, false, false, false, false, false, false, false, false] rfl rfl (any_of HT_.out (by kernel_rfl)) (fun _ _ _ h => h) (Or.inl ⟨by rfl, ?_⟩) ?_ ?_
  rotate_left
  · intro w'
    go_simp
    with_reducible rfl
  rotate_left
  · simp only [Act.put, List.setIfInBounds_toArray, List.set_cons_zero, List.set_cons_succ, i64_w, i32_w]
    rfl
  refine take_ (i := 1) (N := some 4) (v := ?_) (a' := ?_) #[true, true, false, true, false, false, true, false, false, true, false, false, false, false, false, false, false, false, false, false] rfl rfl (take_ofW HT_.out HW_.out (by kernel_rfl)) (fun _ _ _ h => h) (Or.inl ⟨by rfl, ?_⟩) hHeld ?_ ?_
  rotate_left
  · rintro w' ⟨s0, s1, s2, s3⟩
    go_simp
    with_reducible rfl
  rotate_left
  · simp only [Act.put, List.setIfInBounds_toArray, List.set_cons_zero, List.set_cons_succ, i64_w, i32_w]
    rfl
  refine take_ (i := 4) (N := some 7) (v := ?_) (a' := ?_) #[true, true, false, true, true, false, true, false, false, true, false, false, false, false, false, false, false, false, false, false] rfl rfl (take_ofW HT_.out HW_.out (by kernel_rfl)) (fun _ _ _ h => h) (Or.inl ⟨by rfl, ?_⟩) hHeld ?_ ?_
  rotate_left
  · rintro w' ⟨s0, s1, s2, s3⟩
    go_simp
    with_reducible rfl
  rotate_left
  · simp only [Act.put, List.setIfInBounds_toArray, List.set_cons_zero, List.set_cons_succ, i64_w, i32_w]
    rfl
  refine take_ (i := 7) (N := some 10) (v := ?_) (a' := ?_) #[true, true, false, true, true, false, true, true, false, true, false, false, false, false, false, false, false, false, false, false] rfl rfl (take_ofW HT_.out HW_.out (by kernel_rfl)) (fun _ _ _ h => h) (Or.inl ⟨by rfl, ?_⟩) hHeld ?_ ?_
  rotate_left
  · rintro w' ⟨s0, s1, s2, s3⟩
    go_simp
    with_reducible rfl
  rotate_left
  · simp only [Act.put, List.setIfInBounds_toArray, List.set_cons_zero, List.set_cons_succ, i64_w, i32_w]
    rfl
  refine take_ (i := 10) (N := some 13) (v := ?_) (a' := ?_) #[true, true, false, true, true, false, true, true, false, true, true, false, false, false, false, false, false, false, false, false] rfl rfl (take_ofW HT_.out HW_.out (by kernel_rfl)) (fun _ _ _ h => h) (Or.inl ⟨by rfl, ?_⟩) hHeld ?_ ?_
  rotate_left
  · rintro w' ⟨s0, s1, s2, s3⟩
    go_simp
    with_reducible rfl
  rotate_left
  · simp only [Act.put, List.setIfInBounds_toArray, List.set_cons_zero, List.set_cons_succ, i64_w, i32_w]
    rfl
  refine one_ (i := 2) (N := some 5) #[true, true, true, true, true, false, true, true, false, true, true, false, false, false, false, false, false, false, false, false] rfl rfl (one_of HT_.out (by kernel_rfl)) (by decide) (fun K hK => ?_)
  refine goes_ Tryd.func40 (by kernel_rfl) rfl #[.slice A6 R.f6.length c6] (by rfl) rfl rfl (by first | rfl | (simp only [List.map_toArray, List.map_cons, List.map_nil]; rfl)) ?_
  refine (clone_int.calls A6 c6 R.f6 R.f6 _ (Kd.C_below G6.out HB.out) l6 q6.out).mono ?_
  rintro e wa6 ⟨vk, rfl, hR, hb⟩
  refine ⟨_, rfl, ?_⟩
  obtain ⟨E6, e6, hv⟩ := Kd.R_slice hR
  subst hv
  have hR2 := Aside0.mk (Kd.R_lower hR HB.out.size)
  have n_BP := Aside0.mk (blk_below BP.out hb)
  have n_BQ := Aside0.mk (blk_below BQ.out hb)
  have n_HB := Aside0.mk (HB.out.trans (Below.mono hb HB.out.size))
  clear BP BQ HB
  have BP := n_BP
  have BQ := n_BQ
  have HB := n_HB
  clear n_BP n_BQ n_HB
  have R6 := hR2
  clear hR2 hR hb
  refine hK.out _ _ ⟨(blk_cell BP.out 6).trans rfl, (blk_cell BP.out 7).trans rfl, (blk_cell BP.out 8).trans rfl, (blk_cell BP.out 9).trans rfl⟩ (fun hHeld => ?_)
  clear hK K
  refine norm_ (a' := ?_) ?_ ?_
  rotate_left
  · show Act.put _ (some 5) _ = _
    simp only [Act.put, List.setIfInBounds_toArray, List.set_cons_zero, List.set_cons_succ, i64_w, i32_w]
    rfl
  refine pure_ (i := 12) (N := some 15) (v := ?_) (a' := ?_) #[true, true, true, true, true, false, true, true, false, true, true, false, true, false, false, false, false, false, false, false] rfl rfl (any_of HT_.out (by kernel_rfl)) (fun _ _ _ h => h) (Or.inl ⟨by rfl, ?_⟩) ?_ ?_
  rotate_left
  · intro w'
    go_simp
    with_reducible rfl
  rotate_left
  · simp only [Act.put, List.setIfInBounds_toArray, List.set_cons_zero, List.set_cons_succ, i64_w, i32_w]
    rfl
  refine one_ (i := 5) (N := some 8) #[true, true, true, true, true, true, true, true, false, true, true, false, true, false, false, false, false, false, false, false] rfl rfl (one_of HT_.out (by kernel_rfl)) (by decide) (fun K hK => ?_)
  refine goes_ Tryd.func62 (by kernel_rfl) rfl #[.slice A7 R.f7.length c7] (by rfl) rfl rfl (by first | rfl | (simp only [List.map_toArray, List.map_cons, List.map_nil]; rfl)) ?_
  refine (clone_threshold.calls A7 c7 R.f7 R.f7 _ (Kd.C_below G7.out HB.out) l7 q7.out).mono ?_
  rintro e wa7 ⟨vk, rfl, hR, hb⟩
  refine ⟨_, rfl, ?_⟩
  obtain ⟨E7, e7, hv⟩ := Kd.R_slice hR
  subst hv
  have hR2 := Aside0.mk (Kd.R_lower hR HB.out.size)
  have n_BP := Aside0.mk (blk_below BP.out hb)
  have n_BQ := Aside0.mk (blk_below BQ.out hb)
  have n_HB := Aside0.mk (HB.out.trans (Below.mono hb HB.out.size))
  have n_R6 := Aside0.mk (Kd.R_below R6.out hb)
  clear BP BQ HB R6
  have BP := n_BP
  have BQ := n_BQ
  have HB := n_HB
  have R6 := n_R6
  clear n_BP n_BQ n_HB n_R6
  have R7 := hR2
  clear hR2 hR hb
  refine hK.out _ _ ⟨(blk_cell BP.out 6).trans rfl, (blk_cell BP.out 7).trans rfl, (blk_cell BP.out 8).trans rfl, (blk_cell BP.out 9).trans rfl⟩ (fun hHeld => ?_)
  clear hK K
  refine norm_ (a' := ?_) ?_ ?_
  rotate_left
  · show Act.put _ (some 8) _ = _
    simp only [Act.put, List.setIfInBounds_toArray, List.set_cons_zero, List.set_cons_succ, i64_w, i32_w]
    rfl
  refine one_ (i := 8) (N := some 11) #[true, true, true, true, true, true, true, true, true, true, true, false, true, false, false, false, false, false, false, false] rfl rfl (one_of HT_.out (by kernel_rfl)) (by decide) (fun K hK => ?_)
  refine goes_ Tryd.func40 (by kernel_rfl) rfl #[.slice A8 R.f8.length c8] (by rfl) rfl rfl (by first | rfl | (simp only [List.map_toArray, List.map_cons, List.map_nil]; rfl)) ?_
  refine (clone_int.calls A8 c8 R.f8 R.f8 _ (Kd.C_below G8.out HB.out) l8 q8.out).mono ?_
  rintro e wa8 ⟨vk, rfl, hR, hb⟩
  refine ⟨_, rfl, ?_⟩
  obtain ⟨E8, e8, hv⟩ := Kd.R_slice hR
  subst hv
  have hR2 := Aside0.mk (Kd.R_lower hR HB.out.size)
  have n_BP := Aside0.mk (blk_below BP.out hb)
  have n_BQ := Aside0.mk (blk_below BQ.out hb)
  have n_HB := Aside0.mk (HB.out.trans (Below.mono hb HB.out.size))
  have n_R6 := Aside0.mk (Kd.R_below R6.out hb)
  have n_R7 := Aside0.mk (Kd.R_below R7.out hb)
  clear BP BQ HB R6 R7
  have BP := n_BP
  have BQ := n_BQ
  have HB := n_HB
  have R6 := n_R6
  have R7 := n_R7
  clear n_BP n_BQ n_HB n_R6 n_R7
  have R8 := hR2
  clear hR2 hR hb
  refine hK.out _ _ ⟨(blk_cell BP.out 6).trans rfl, (blk_cell BP.out 7).trans rfl, (blk_cell BP.out 8).trans rfl, (blk_cell BP.out 9).trans rfl⟩ (fun hHeld => ?_)
  clear hK K
  refine norm_ (a' := ?_) ?_ ?_
  rotate_left
  · show Act.put _ (some 11) _ = _
    simp only [Act.put, List.setIfInBounds_toArray, List.set_cons_zero, List.set_cons_succ, i64_w, i32_w]
    rfl
  refine one_ (i := 11) (N := some 14) #[true, true, true, true, true, true, true, true, true, true, true, true, true, false, false, false, false, false, false, false] rfl rfl (one_of HT_.out (by kernel_rfl)) (by decide) (fun K hK => ?_)
  refine goes_ Tryd.func40 (by kernel_rfl) rfl #[.slice A9 R.f9.length c9] (by rfl) rfl rfl (by first | rfl | (simp only [List.map_toArray, List.map_cons, List.map_nil]; rfl)) ?_
  refine (clone_int.calls A9 c9 R.f9 R.f9 _ (Kd.C_below G9.out HB.out) l9 q9.out).mono ?_
  rintro e wa9 ⟨vk, rfl, hR, hb⟩
  refine ⟨_, rfl, ?_⟩
  obtain ⟨E9, e9, hv⟩ := Kd.R_slice hR
  subst hv
  have hR2 := Aside0.mk (Kd.R_lower hR HB.out.size)
  have n_BP := Aside0.mk (blk_below BP.out hb)
  have n_BQ := Aside0.mk (blk_below BQ.out hb)
  have n_HB := Aside0.mk (HB.out.trans (Below.mono hb HB.out.size))
  have n_R6 := Aside0.mk (Kd.R_below R6.out hb)
  have n_R7 := Aside0.mk (Kd.R_below R7.out hb)
  have n_R8 := Aside0.mk (Kd.R_below R8.out hb)
  clear BP BQ HB R6 R7 R8
  have BP := n_BP
  have BQ := n_BQ
  have HB := n_HB
  have R6 := n_R6
  have R7 := n_R7
  have R8 := n_R8
  clear n_BP n_BQ n_HB n_R6 n_R7 n_R8
  have R9 := hR2
  clear hR2 hR hb
  refine hK.out _ _ ⟨(blk_cell BP.out 6).trans rfl, (blk_cell BP.out 7).trans rfl, (blk_cell BP.out 8).trans rfl, (blk_cell BP.out 9).trans rfl⟩ (fun hHeld => ?_)
  clear hK K
  refine norm_ (a' := ?_) ?_ ?_
  rotate_left
  · show Act.put _ (some 14) _ = _
    simp only [Act.put, List.setIfInBounds_toArray, List.set_cons_zero, List.set_cons_succ, i64_w, i32_w]
    rfl
  refine last_ (i := 13) (N := none) #[true, true, true, true, true, true, true, true, true, true, true, true, true, true, false, false, false, false, false, false] rfl rfl (one_of HT_.out (by kernel_rfl)) (by decide) (fun K hK => ?_)
  have sc := blk_cell BP.out 6
  have sf := blk_frozen BP.out 6
  replace sc : wa9.cell? ⟨g, 6, none⟩ = some (.slice A6 R.f6.length c6) := sc.trans rfl
  refine skip_ (w1 := ?_) (by rfl) rfl ?_ ?_
  rotate_left
  · go_simp
    rfl
  clear sc sf
  refine hK.out _ _ ?_
  clear hK K
  refine pure_ (i := 14) (N := some 16) (v := ?_) (a' := ?_) #[true, true, true, true, true, true, true, true, true, true, true, true, true, true, true, false, false, false, false, false] rfl rfl (any_of HT_.out (by kernel_rfl)) (fun _ _ _ h => h) (Or.inl ⟨by rfl, ?_⟩) ?_ ?_
  rotate_left
  · intro w'
    go_simp
    with_reducible rfl
  rotate_left
  · simp only [Act.put, List.setIfInBounds_toArray, List.set_cons_zero, List.set_cons_succ, i64_w, i32_w]
    rfl
  refine last_ (i := 15) (N := none) #[true, true, true, true, true, true, true, true, true, true, true, true, true, true, true, true, false, false, false, false] rfl rfl (one_of HT_.out (by kernel_rfl)) (by decide) (fun K hK => ?_)
  obtain ⟨wb6, hwb⟩ : ∃ wb, wb = wa9.setCell ⟨g, 6, none⟩ (.slice E6 R.f6.length e6) := ⟨_, rfl⟩
  rw [← hwb]
  have n_BP : Aside0 (wb6.heap[g]? = some (.cells #[.string R.f0, .int .i64 R.f1, .int .i64 R.f2, .int .i64 R.f3, .int .i64 R.f4, .int .i64 R.f5, .slice E6 R.f6.length e6, .slice A7 R.f7.length c7, .slice A8 R.f8.length c8, .slice A9 R.f9.length c9, .int .i64 R.f10, .int .i64 R.f11, .slice A12 R.f12.length c12, .int .i64 R.f13, .slice A14 R.f14.length c14, .slice A15 R.f15.length c15, .slice A16 R.f16.length c16, .int .i64 R.f17] 30 (0, 0))) := ⟨by rw [hwb]; exact blk_put BP.out 6 _ rfl⟩
  have n_BQ : Aside0 (wb6.heap[g2]? = some (.cells #[.string (⟨#[]⟩ : ByteArray), .int .i64 0, .int .i64 0, .int .i64 0, .int .i64 0, .int .i64 0, .slice none 0 0, .slice none 0 0, .slice none 0 0, .slice none 0 0, .int .i64 0, .int .i64 0, .slice none 0 0, .int .i64 0, .slice none 0 0, .slice none 0 0, .slice none 0 0, .int .i64 0] 30 (0, 0))) := ⟨by rw [hwb]; exact (Below.heap_setCell _ _ _ _ hg2).trans BQ.out⟩
  have n_HB : Aside0 (Below w.heap.size w wb6) := ⟨by rw [hwb]; exact HB.out.setCell hg1 _⟩
  have n_R6 : Aside0 (Kd.R (Kd.int .i64) 3 wb6 w.heap.size (fun _ => True) (.slice E6 R.f6.length e6) R.f6) := ⟨by rw [hwb]; exact Kd.R_set R6.out BP.out (by decide) 6 _⟩
  have n_R7 : Aside0 (Kd.R k93 93 wb6 w.heap.size (fun _ => True) (.slice E7 R.f7.length e7) R.f7) := ⟨by rw [hwb]; exact Kd.R_set R7.out BP.out (by decide) 6 _⟩
  have n_R8 : Aside0 (Kd.R (Kd.int .i64) 3 wb6 w.heap.size (fun _ => True) (.slice E8 R.f8.length e8) R.f8) := ⟨by rw [hwb]; exact Kd.R_set R8.out BP.out (by decide) 6 _⟩
  have n_R9 : Aside0 (Kd.R (Kd.int .i64) 3 wb6 w.heap.size (fun _ => True) (.slice E9 R.f9.length e9) R.f9) := ⟨by rw [hwb]; exact Kd.R_set R9.out BP.out (by decide) 6 _⟩
  clear BP BQ HB R6 R7 R8 R9 hwb
  have BP := n_BP
  have BQ := n_BQ
  have HB := n_HB
  have R6 := n_R6
  have R7 := n_R7
  have R8 := n_R8
  have R9 := n_R9
  clear n_BP n_BQ n_HB n_R6 n_R7 n_R8 n_R9
  have sc := blk_cell BP.out 7
  have sf := blk_frozen BP.out 7
  replace sc : wb6.cell? ⟨g, 7, none⟩ = some (.slice A7 R.f7.length c7) := sc.trans rfl
  refine skip_ (w1 := ?_) (by rfl) rfl ?_ ?_
  rotate_left
  · go_simp
    rfl
  clear sc sf
  refine hK.out _ _ ?_
  clear hK K
  refine pure_ (i := 16) (N := some 17) (v := ?_) (a' := ?_) #[true, true, true, true, true, true, true, true, true, true, true, true, true, true, true, true, true, false, false, false] rfl rfl (any_of HT_.out (by kernel_rfl)) (fun _ _ _ h => h) (Or.inl ⟨by rfl, ?_⟩) ?_ ?_
  rotate_left
  · intro w'
    go_simp
    with_reducible rfl
  rotate_left
  · simp only [Act.put, List.setIfInBounds_toArray, List.set_cons_zero, List.set_cons_succ, i64_w, i32_w]
    rfl
  refine last_ (i := 17) (N := none) #[true, true, true, true, true, true, true, true, true, true, true, true, true, true, true, true, true, true, false, false] rfl rfl (one_of HT_.out (by kernel_rfl)) (by decide) (fun K hK => ?_)
  obtain ⟨wb7, hwb⟩ : ∃ wb, wb = wb6.setCell ⟨g, 7, none⟩ (.slice E7 R.f7.length e7) := ⟨_, rfl⟩
  rw [← hwb]
  have n_BP : Aside0 (wb7.heap[g]? = some (.cells #[.string R.f0, .int .i64 R.f1, .int .i64 R.f2, .int .i64 R.f3, .int .i64 R.f4, .int .i64 R.f5, .slice E6 R.f6.length e6, .slice E7 R.f7.length e7, .slice A8 R.f8.length c8, .slice A9 R.f9.length c9, .int .i64 R.f10, .int .i64 R.f11, .slice A12 R.f12.length c12, .int .i64 R.f13, .slice A14 R.f14.length c14, .slice A15 R.f15.length c15, .slice A16 R.f16.length c16, .int .i64 R.f17] 30 (0, 0))) := ⟨by rw [hwb]; exact blk_put BP.out 7 _ rfl⟩
  have n_BQ : Aside0 (wb7.heap[g2]? = some (.cells #[.string (⟨#[]⟩ : ByteArray), .int .i64 0, .int .i64 0, .int .i64 0, .int .i64 0, .int .i64 0, .slice none 0 0, .slice none 0 0, .slice none 0 0, .slice none 0 0, .int .i64 0, .int .i64 0, .slice none 0 0, .int .i64 0, .slice none 0 0, .slice none 0 0, .slice none 0 0, .int .i64 0] 30 (0, 0))) := ⟨by rw [hwb]; exact (Below.heap_setCell _ _ _ _ hg2).trans BQ.out⟩
  have n_HB : Aside0 (Below w.heap.size w wb7) := ⟨by rw [hwb]; exact HB.out.setCell hg1 _⟩
  have n_R6 : Aside0 (Kd.R (Kd.int .i64) 3 wb7 w.heap.size (fun _ => True) (.slice E6 R.f6.length e6) R.f6) := ⟨by rw [hwb]; exact Kd.R_set R6.out BP.out (by decide) 7 _⟩
  have n_R7 : Aside0 (Kd.R k93 93 wb7 w.heap.size (fun _ => True) (.slice E7 R.f7.length e7) R.f7) := ⟨by rw [hwb]; exact Kd.R_set R7.out BP.out (by decide) 7 _⟩
  have n_R8 : Aside0 (Kd.R (Kd.int .i64) 3 wb7 w.heap.size (fun _ => True) (.slice E8 R.f8.length e8) R.f8) := ⟨by rw [hwb]; exact Kd.R_set R8.out BP.out (by decide) 7 _⟩
  have n_R9 : Aside0 (Kd.R (Kd.int .i64) 3 wb7 w.heap.size (fun _ => True) (.slice E9 R.f9.length e9) R.f9) := ⟨by rw [hwb]; exact Kd.R_set R9.out BP.out (by decide) 7 _⟩
  clear BP BQ HB R6 R7 R8 R9 hwb
  have BP := n_BP
  have BQ := n_BQ
  have HB := n_HB
  have R6 := n_R6
  have R7 := n_R7
  have R8 := n_R8
  have R9 := n_R9
  clear n_BP n_BQ n_HB n_R6 n_R7 n_R8 n_R9
  have sc := blk_cell BP.out 8
  have sf := blk_frozen BP.out 8
  replace sc : wb7.cell? ⟨g, 8, none⟩ = some (.slice A8 R.f8.length c8) := sc.trans rfl
  refine skip_ (w1 := ?_) (by rfl) rfl ?_ ?_
  rotate_left
  · go_simp
    rfl
  clear sc sf
  refine hK.out _ _ ?_
  clear hK K
  refine pure_ (i := 18) (N := some 18) (v := ?_) (a' := ?_) #[true, true, true, true, true, true, true, true, true, true, true, true, true, true, true, true, true, true, true, false] rfl rfl (any_of HT_.out (by kernel_rfl)) (fun _ _ _ h => h) (Or.inl ⟨by rfl, ?_⟩) ?_ ?_
  rotate_left
  · intro w'
    go_simp
    with_reducible rfl
  rotate_left
  · simp only [Act.put, List.setIfInBounds_toArray, List.set_cons_zero, List.set_cons_succ, i64_w, i32_w]
    rfl
  refine last_ (i := 19) (N := none) #[true, true, true, true, true, true, true, true, true, true, true, true, true, true, true, true, true, true, true, true] rfl rfl (one_of HT_.out (by kernel_rfl)) (by decide) (fun K hK => ?_)
  obtain ⟨wb8, hwb⟩ : ∃ wb, wb = wb7.setCell ⟨g, 8, none⟩ (.slice E8 R.f8.length e8) := ⟨_, rfl⟩
  rw [← hwb]
  have n_BP : Aside0 (wb8.heap[g]? = some (.cells #[.string R.f0, .int .i64 R.f1, .int .i64 R.f2, .int .i64 R.f3, .int .i64 R.f4, .int .i64 R.f5, .slice E6 R.f6.length e6, .slice E7 R.f7.length e7, .slice E8 R.f8.length e8, .slice A9 R.f9.length c9, .int .i64 R.f10, .int .i64 R.f11, .slice A12 R.f12.length c12, .int .i64 R.f13, .slice A14 R.f14.length c14, .slice A15 R.f15.length c15, .slice A16 R.f16.length c16, .int .i64 R.f17] 30 (0, 0))) := ⟨by rw [hwb]; exact blk_put BP.out 8 _ rfl⟩
  have n_BQ : Aside0 (wb8.heap[g2]? = some (.cells #[.string (⟨#[]⟩ : ByteArray), .int .i64 0, .int .i64 0, .int .i64 0, .int .i64 0, .int .i64 0, .slice none 0 0, .slice none 0 0, .slice none 0 0, .slice none 0 0, .int .i64 0, .int .i64 0, .slice none 0 0, .int .i64 0, .slice none 0 0, .slice none 0 0, .slice none 0 0, .int .i64 0] 30 (0, 0))) := ⟨by rw [hwb]; exact (Below.heap_setCell _ _ _ _ hg2).trans BQ.out⟩
  have n_HB : Aside0 (Below w.heap.size w wb8) := ⟨by rw [hwb]; exact HB.out.setCell hg1 _⟩
  have n_R6 : Aside0 (Kd.R (Kd.int .i64) 3 wb8 w.heap.size (fun _ => True) (.slice E6 R.f6.length e6) R.f6) := ⟨by rw [hwb]; exact Kd.R_set R6.out BP.out (by decide) 8 _⟩
  have n_R7 : Aside0 (Kd.R k93 93 wb8 w.heap.size (fun _ => True) (.slice E7 R.f7.length e7) R.f7) := ⟨by rw [hwb]; exact Kd.R_set R7.out BP.out (by decide) 8 _⟩
  have n_R8 : Aside0 (Kd.R (Kd.int .i64) 3 wb8 w.heap.size (fun _ => True) (.slice E8 R.f8.length e8) R.f8) := ⟨by rw [hwb]; exact Kd.R_set R8.out BP.out (by decide) 8 _⟩
  have n_R9 : Aside0 (Kd.R (Kd.int .i64) 3 wb8 w.heap.size (fun _ => True) (.slice E9 R.f9.length e9) R.f9) := ⟨by rw [hwb]; exact Kd.R_set R9.out BP.out (by decide) 8 _⟩
  clear BP BQ HB R6 R7 R8 R9 hwb
  have BP := n_BP
  have BQ := n_BQ
  have HB := n_HB
  have R6 := n_R6
  have R7 := n_R7
  have R8 := n_R8
  have R9 := n_R9
  clear n_BP n_BQ n_HB n_R6 n_R7 n_R8 n_R9
  have sc := blk_cell BP.out 9
  have sf := blk_frozen BP.out 9
  replace sc : wb8.cell? ⟨g, 9, none⟩ = some (.slice A9 R.f9.length c9) := sc.trans rfl
  refine skip_ (w1 := ?_) (by rfl) rfl ?_ ?_
  rotate_left
  · go_simp
    rfl
  clear sc sf
  refine hK.out _ _ ?_
  clear hK K
  refine done_ (done_of HT_.out (by kernel_rfl)) ?_
  obtain ⟨wb9, hwb⟩ : ∃ wb, wb = wb8.setCell ⟨g, 9, none⟩ (.slice E9 R.f9.length e9) := ⟨_, rfl⟩
  rw [← hwb]
  have n_BP : Aside0 (wb9.heap[g]? = some (.cells #[.string R.f0, .int .i64 R.f1, .int .i64 R.f2, .int .i64 R.f3, .int .i64 R.f4, .int .i64 R.f5, .slice E6 R.f6.length e6, .slice E7 R.f7.length e7, .slice E8 R.f8.length e8, .slice E9 R.f9.length e9, .int .i64 R.f10, .int .i64 R.f11, .slice A12 R.f12.length c12, .int .i64 R.f13, .slice A14 R.f14.length c14, .slice A15 R.f15.length c15, .slice A16 R.f16.length c16, .int .i64 R.f17] 30 (0, 0))) := ⟨by rw [hwb]; exact blk_put BP.out 9 _ rfl⟩
  have n_BQ : Aside0 (wb9.heap[g2]? = some (.cells #[.string (⟨#[]⟩ : ByteArray), .int .i64 0, .int .i64 0, .int .i64 0, .int .i64 0, .int .i64 0, .slice none 0 0, .slice none 0 0, .slice none 0 0, .slice none 0 0, .int .i64 0, .int .i64 0, .slice none 0 0, .int .i64 0, .slice none 0 0, .slice none 0 0, .slice none 0 0, .int .i64 0] 30 (0, 0))) := ⟨by rw [hwb]; exact (Below.heap_setCell _ _ _ _ hg2).trans BQ.out⟩
  have n_HB : Aside0 (Below w.heap.size w wb9) := ⟨by rw [hwb]; exact HB.out.setCell hg1 _⟩
  have n_R6 : Aside0 (Kd.R (Kd.int .i64) 3 wb9 w.heap.size (fun _ => True) (.slice E6 R.f6.length e6) R.f6) := ⟨by rw [hwb]; exact Kd.R_set R6.out BP.out (by decide) 9 _⟩
  have n_R7 : Aside0 (Kd.R k93 93 wb9 w.heap.size (fun _ => True) (.slice E7 R.f7.length e7) R.f7) := ⟨by rw [hwb]; exact Kd.R_set R7.out BP.out (by decide) 9 _⟩
  have n_R8 : Aside0 (Kd.R (Kd.int .i64) 3 wb9 w.heap.size (fun _ => True) (.slice E8 R.f8.length e8) R.f8) := ⟨by rw [hwb]; exact Kd.R_set R8.out BP.out (by decide) 9 _⟩
  have n_R9 : Aside0 (Kd.R (Kd.int .i64) 3 wb9 w.heap.size (fun _ => True) (.slice E9 R.f9.length e9) R.f9) := ⟨by rw [hwb]; exact Kd.R_set R9.out BP.out (by decide) 9 _⟩
  clear BP BQ HB R6 R7 R8 R9 hwb
  have BP := n_BP
  have BQ := n_BQ
  have HB := n_HB
  have R6 := n_R6
  have R7 := n_R7
  have R8 := n_R8
  have R9 := n_R9
  clear n_BP n_BQ n_HB n_R6 n_R7 n_R8 n_R9
  go_upto_region 2 with (fail)
  have n_BP := Aside0.mk (blk_drew BP.out)
  have n_BQ := Aside0.mk (blk_drew BQ.out)
  have n_HB := Aside0.mk (below_drew1 HB.out)
  have n_R6 := Aside0.mk (Kd.R_drew R6.out)
  have n_R7 := Aside0.mk (Kd.R_drew R7.out)
  have n_R8 := Aside0.mk (Kd.R_drew R8.out)
  have n_R9 := Aside0.mk (Kd.R_drew R9.out)
  clear BP BQ HB R6 R7 R8 R9
  have BP := n_BP
  have BQ := n_BQ
  have HB := n_HB
  have R6 := n_R6
  have R7 := n_R7
  have R8 := n_R8
  have R9 := n_R9
  clear n_BP n_BQ n_HB n_R6 n_R7 n_R8 n_R9
  refine start_ (n := 20) (S := fun w' => w'.cell? ⟨g, 12, none⟩ = some (.slice A12 R.f12.length c12) ∧ w'.cell? ⟨g, 14, none⟩ = some (.slice A14 R.f14.length c14) ∧ w'.cell? ⟨g, 15, none⟩ = some (.slice A15 R.f15.length c15) ∧ w'.cell? ⟨g, 16, none⟩ = some (.slice A16 R.f16.length c16)) (ds := [13, 15, 17, 19]) #[false, false, false, false, false, false, false, false, false, false, false, false, false, false, false, false, false, false, false, false] (by kernel_rfl) rfl rfl ⟨(blk_cell BP.out 12).trans rfl, (blk_cell BP.out 14).trans rfl, (blk_cell BP.out 15).trans rfl, (blk_cell BP.out 16).trans rfl⟩ (fun hHeld => ?_)
  refine with_tabW copyRule.tab2 copyRule.bits2 (fun HT_ HW_ => ?_)
  refine pure_ (i := 0) (N := some 19) (v := ?_) (a' := ?_) #[true, false, false, false, false, false, false, false, false, false, false, false, false, false, false, false, false, false, false, false] rfl rfl (any_of HT_.out (by kernel_rfl)) (fun _ _ _ h => h) (Or.inl ⟨by rfl, ?_⟩) ?_ ?_
  rotate_left
  · intro w'
    go_simp
    with_reducible rfl
  rotate_left
  · simp only [Act.put, List.setIfInBounds_toArray, List.set_cons_zero, List.set_cons_succ, i64_w, i32_w]
    rfl
  refine pure_ (i := 3) (N := some 22) (v := ?_) (a' := ?_) #[true, false, false, true, false, false, false, false, false, false, false, false, false, false, false, false, false, false, false, false] rfl rfl (any_of HT_.out (by kernel_rfl)) (fun _ _ _ h => h) (Or.inl ⟨by rfl, ?_⟩) ?_ ?_
  rotate_left
  · intro w'
    go_simp
    with_reducible rfl
  rotate_left
  · simp only [Act.put, List.setIfInBounds_toArray, List.set_cons_zero, List.set_cons_succ, i64_w, i32_w]
    rfl
  refine pure_ (i := 6) (N := some 25) (v := ?_) (a' := ?_) #[true, false, false, true, false, false, true, false, false, false, false, false, false, false, false, false, false, false, false, false] rfl rfl (any_of HT_.out (by kernel_rfl)) (fun _ _ _ h => h) (Or.inl ⟨by rfl, ?_⟩) ?_ ?_
  rotate_left
  · intro w'
    go_simp
    with_reducible rfl
  rotate_left
  · simp only [Act.put, List.setIfInBounds_toArray, List.set_cons_zero, List.set_cons_succ, i64_w, i32_w]
    rfl
  refine pure_ (i := 9) (N := some 28) (v := ?_) (a' := ?_) #[true, false, false, true, false, false, true, false, false, true, false, false, false, false, false, false, false, false, false, false] rfl rfl (any_of HT_.out (by kernel_rfl)) (fun _ _ _ h => h) (Or.inl ⟨by rfl, ?_⟩) ?_ ?_
  rotate_left
  · intro w'
    go_simp
    with_reducible rfl
  rotate_left
  · simp only [Act.put, List.setIfInBounds_toArray, List.set_cons_zero, List.set_cons_succ, i64_w, i32_w]
    rfl
  refine take_ (i := 1) (N := some 20) (v := ?_) (a' := ?_) #[true, true, false, true, false, false, true, false, false, true, false, false, false, false, false, false, false, false, false, false] rfl rfl (take_ofW HT_.out HW_.out (by kernel_rfl)) (fun _ _ _ h => h) (Or.inl ⟨by rfl, ?_⟩) hHeld ?_ ?_
  rotate_left
  · rintro w' ⟨s0, s1, s2, s3⟩
    go_simp
    with_reducible rfl
  rotate_left
  · simp only [Act.put, List.setIfInBounds_toArray, List.set_cons_zero, List.set_cons_succ, i64_w, i32_w]
    rfl
  refine take_ (i := 4) (N := some 23) (v := ?_) (a' := ?_) #[true, true, false, true, true, false, true, false, false, true, false, false, false, false, false, false, false, false, false, false] rfl rfl (take_ofW HT_.out HW_.out (by kernel_rfl)) (fun _ _ _ h => h) (Or.inl ⟨by rfl, ?_⟩) hHeld ?_ ?_
  rotate_left
  · rintro w' ⟨s0, s1, s2, s3⟩
    go_simp
    with_reducible rfl
  rotate_left
  · simp only [Act.put, List.setIfInBounds_toArray, List.set_cons_zero, List.set_cons_succ, i64_w, i32_w]
    rfl
  refine take_ (i := 7) (N := some 26) (v := ?_) (a' := ?_) #[true, true, false, true, true, false, true, true, false, true, false, false, false, false, false, false, false, false, false, false] rfl rfl (take_ofW HT_.out HW_.out (by kernel_rfl)) (fun _ _ _ h => h) (Or.inl ⟨by rfl, ?_⟩) hHeld ?_ ?_
  rotate_left
  · rintro w' ⟨s0, s1, s2, s3⟩
    go_simp
    with_reducible rfl
  rotate_left
  · simp only [Act.put, List.setIfInBounds_toArray, List.set_cons_zero, List.set_cons_succ, i64_w, i32_w]
    rfl
  refine take_ (i := 10) (N := some 29) (v := ?_) (a' := ?_) #[true, true, false, true, true, false, true, true, false, true, true, false, false, false, false, false, false, false, false, false] rfl rfl (take_ofW HT_.out HW_.out (by kernel_rfl)) (fun _ _ _ h => h) (Or.inl ⟨by rfl, ?_⟩) hHeld ?_ ?_
  rotate_left
  · rintro w' ⟨s0, s1, s2, s3⟩
    go_simp
    with_reducible rfl
  rotate_left
  · simp only [Act.put, List.setIfInBounds_toArray, List.set_cons_zero, List.set_cons_succ, i64_w, i32_w]
    rfl
  refine one_ (i := 2) (N := some 21) #[true, true, true, true, true, false, true, true, false, true, true, false, false, false, false, false, false, false, false, false] rfl rfl (one_of HT_.out (by kernel_rfl)) (by decide) (fun K hK => ?_)
  refine goes_ Tryd.func40 (by kernel_rfl) rfl #[.slice A12 R.f12.length c12] (by rfl) rfl rfl (by first | rfl | (simp only [List.map_toArray, List.map_cons, List.map_nil]; rfl)) ?_
  refine (clone_int.calls A12 c12 R.f12 R.f12 _ (Kd.C_below G12.out HB.out) l12 q12.out).mono ?_
  rintro e wa12 ⟨vk, rfl, hR, hb⟩
  refine ⟨_, rfl, ?_⟩
  obtain ⟨E12, e12, hv⟩ := Kd.R_slice hR
  subst hv
  have hR2 := Aside0.mk (Kd.R_lower hR HB.out.size)
  have n_BP := Aside0.mk (blk_below BP.out hb)
  have n_BQ := Aside0.mk (blk_below BQ.out hb)
  have n_HB := Aside0.mk (HB.out.trans (Below.mono hb HB.out.size))
  have n_R6 := Aside0.mk (Kd.R_below R6.out hb)
  have n_R7 := Aside0.mk (Kd.R_below R7.out hb)
  have n_R8 := Aside0.mk (Kd.R_below R8.out hb)
  have n_R9 := Aside0.mk (Kd.R_below R9.out hb)
  clear BP BQ HB R6 R7 R8 R9
  have BP := n_BP
  have BQ := n_BQ
  have HB := n_HB
  have R6 := n_R6
  have R7 := n_R7
  have R8 := n_R8
  have R9 := n_R9
  clear n_BP n_BQ n_HB n_R6 n_R7 n_R8 n_R9
  have R12 := hR2
  clear hR2 hR hb
  refine hK.out _ _ ⟨(blk_cell BP.out 12).trans rfl, (blk_cell BP.out 14).trans rfl, (blk_cell BP.out 15).trans rfl, (blk_cell BP.out 16).trans rfl⟩ (fun hHeld => ?_)
  clear hK K
  refine norm_ (a' := ?_) ?_ ?_
  rotate_left
  · show Act.put _ (some 21) _ = _
    simp only [Act.put, List.setIfInBounds_toArray, List.set_cons_zero, List.set_cons_succ, i64_w, i32_w]
    rfl
  refine pure_ (i := 12) (N := some 31) (v := ?_) (a' := ?_) #[true, true, true, true, true, false, true, true, false, true, true, false, true, false, false, false, false, false, false, false] rfl rfl (any_of HT_.out (by kernel_rfl)) (fun _ _ _ h => h) (Or.inl ⟨by rfl, ?_⟩) ?_ ?_
  rotate_left
  · intro w'
    go_simp
    with_reducible rfl
  rotate_left
  · simp only [Act.put, List.setIfInBounds_toArray, List.set_cons_zero, List.set_cons_succ, i64_w, i32_w]
    rfl
  refine one_ (i := 5) (N := some 24) #[true, true, true, true, true, true, true, true, false, true, true, false, true, false, false, false, false, false, false, false] rfl rfl (one_of HT_.out (by kernel_rfl)) (by decide) (fun K hK => ?_)
  refine goes_ Tryd.func40 (by kernel_rfl) rfl #[.slice A14 R.f14.length c14] (by rfl) rfl rfl (by first | rfl | (simp only [List.map_toArray, List.map_cons, List.map_nil]; rfl)) ?_
  refine (clone_int.calls A14 c14 R.f14 R.f14 _ (Kd.C_below G14.out HB.out) l14 q14.out).mono ?_
  rintro e wa14 ⟨vk, rfl, hR, hb⟩
  refine ⟨_, rfl, ?_⟩
  obtain ⟨E14, e14, hv⟩ := Kd.R_slice hR
  subst hv
  have hR2 := Aside0.mk (Kd.R_lower hR HB.out.size)
  have n_BP := Aside0.mk (blk_below BP.out hb)
  have n_BQ := Aside0.mk (blk_below BQ.out hb)
  have n_HB := Aside0.mk (HB.out.trans (Below.mono hb HB.out.size))
  have n_R6 := Aside0.mk (Kd.R_below R6.out hb)
  have n_R7 := Aside0.mk (Kd.R_below R7.out hb)
  have n_R8 := Aside0.mk (Kd.R_below R8.out hb)
  have n_R9 := Aside0.mk (Kd.R_below R9.out hb)
  have n_R12 := Aside0.mk (Kd.R_below R12.out hb)
  clear BP BQ HB R6 R7 R8 R9 R12
  have BP := n_BP
  have BQ := n_BQ
  have HB := n_HB
  have R6 := n_R6
  have R7 := n_R7
  have R8 := n_R8
  have R9 := n_R9
  have R12 := n_R12
  clear n_BP n_BQ n_HB n_R6 n_R7 n_R8 n_R9 n_R12
  have R14 := hR2
  clear hR2 hR hb
  refine hK.out _ _ ⟨(blk_cell BP.out 12).trans rfl, (blk_cell BP.out 14).trans rfl, (blk_cell BP.out 15).trans rfl, (blk_cell BP.out 16).trans rfl⟩ (fun hHeld => ?_)
  clear hK K
  refine norm_ (a' := ?_) ?_ ?_
  rotate_left
  · show Act.put _ (some 24) _ = _
    simp only [Act.put, List.setIfInBounds_toArray, List.set_cons_zero, List.set_cons_succ, i64_w, i32_w]
    rfl
  refine one_ (i := 8) (N := some 27) #[true, true, true, true, true, true, true, true, true, true, true, false, true, false, false, false, false, false, false, false] rfl rfl (one_of HT_.out (by kernel_rfl)) (by decide) (fun K hK => ?_)
  refine goes_ Tryd.func40 (by kernel_rfl) rfl #[.slice A15 R.f15.length c15] (by rfl) rfl rfl (by first | rfl | (simp only [List.map_toArray, List.map_cons, List.map_nil]; rfl)) ?_
  refine (clone_int.calls A15 c15 R.f15 R.f15 _ (Kd.C_below G15.out HB.out) l15 q15.out).mono ?_
  rintro e wa15 ⟨vk, rfl, hR, hb⟩
  refine ⟨_, rfl, ?_⟩
  obtain ⟨E15, e15, hv⟩ := Kd.R_slice hR
  subst hv
  have hR2 := Aside0.mk (Kd.R_lower hR HB.out.size)
  have n_BP := Aside0.mk (blk_below BP.out hb)
  have n_BQ := Aside0.mk (blk_below BQ.out hb)
  have n_HB := Aside0.mk (HB.out.trans (Below.mono hb HB.out.size))
  have n_R6 := Aside0.mk (Kd.R_below R6.out hb)
  have n_R7 := Aside0.mk (Kd.R_below R7.out hb)
  have n_R8 := Aside0.mk (Kd.R_below R8.out hb)
  have n_R9 := Aside0.mk (Kd.R_below R9.out hb)
  have n_R12 := Aside0.mk (Kd.R_below R12.out hb)
  have n_R14 := Aside0.mk (Kd.R_below R14.out hb)
  clear BP BQ HB R6 R7 R8 R9 R12 R14
  have BP := n_BP
  have BQ := n_BQ
  have HB := n_HB
  have R6 := n_R6
  have R7 := n_R7
  have R8 := n_R8
  have R9 := n_R9
  have R12 := n_R12
  have R14 := n_R14
  clear n_BP n_BQ n_HB n_R6 n_R7 n_R8 n_R9 n_R12 n_R14
  have R15 := hR2
  clear hR2 hR hb
  refine hK.out _ _ ⟨(blk_cell BP.out 12).trans rfl, (blk_cell BP.out 14).trans rfl, (blk_cell BP.out 15).trans rfl, (blk_cell BP.out 16).trans rfl⟩ (fun hHeld => ?_)
  clear hK K
  refine norm_ (a' := ?_) ?_ ?_
  rotate_left
  · show Act.put _ (some 27) _ = _
    simp only [Act.put, List.setIfInBounds_toArray, List.set_cons_zero, List.set_cons_succ, i64_w, i32_w]
    rfl
  refine one_ (i := 11) (N := some 30) #[true, true, true, true, true, true, true, true, true, true, true, true, true, false, false, false, false, false, false, false] rfl rfl (one_of HT_.out (by kernel_rfl)) (by decide) (fun K hK => ?_)
  refine goes_ Tryd.func40 (by kernel_rfl) rfl #[.slice A16 R.f16.length c16] (by rfl) rfl rfl (by first | rfl | (simp only [List.map_toArray, List.map_cons, List.map_nil]; rfl)) ?_
  refine (clone_int.calls A16 c16 R.f16 R.f16 _ (Kd.C_below G16.out HB.out) l16 q16.out).mono ?_
  rintro e wa16 ⟨vk, rfl, hR, hb⟩
  refine ⟨_, rfl, ?_⟩
  obtain ⟨E16, e16, hv⟩ := Kd.R_slice hR
  subst hv
  have hR2 := Aside0.mk (Kd.R_lower hR HB.out.size)
  have n_BP := Aside0.mk (blk_below BP.out hb)
  have n_BQ := Aside0.mk (blk_below BQ.out hb)
  have n_HB := Aside0.mk (HB.out.trans (Below.mono hb HB.out.size))
  have n_R6 := Aside0.mk (Kd.R_below R6.out hb)
  have n_R7 := Aside0.mk (Kd.R_below R7.out hb)
  have n_R8 := Aside0.mk (Kd.R_below R8.out hb)
  have n_R9 := Aside0.mk (Kd.R_below R9.out hb)
  have n_R12 := Aside0.mk (Kd.R_below R12.out hb)
  have n_R14 := Aside0.mk (Kd.R_below R14.out hb)
  have n_R15 := Aside0.mk (Kd.R_below R15.out hb)
  clear BP BQ HB R6 R7 R8 R9 R12 R14 R15
  have BP := n_BP
  have BQ := n_BQ
  have HB := n_HB
  have R6 := n_R6
  have R7 := n_R7
  have R8 := n_R8
  have R9 := n_R9
  have R12 := n_R12
  have R14 := n_R14
  have R15 := n_R15
  clear n_BP n_BQ n_HB n_R6 n_R7 n_R8 n_R9 n_R12 n_R14 n_R15
  have R16 := hR2
  clear hR2 hR hb
  refine hK.out _ _ ⟨(blk_cell BP.out 12).trans rfl, (blk_cell BP.out 14).trans rfl, (blk_cell BP.out 15).trans rfl, (blk_cell BP.out 16).trans rfl⟩ (fun hHeld => ?_)
  clear hK K
  refine norm_ (a' := ?_) ?_ ?_
  rotate_left
  · show Act.put _ (some 30) _ = _
    simp only [Act.put, List.setIfInBounds_toArray, List.set_cons_zero, List.set_cons_succ, i64_w, i32_w]
    rfl
  refine last_ (i := 13) (N := none) #[true, true, true, true, true, true, true, true, true, true, true, true, true, true, false, false, false, false, false, false] rfl rfl (one_of HT_.out (by kernel_rfl)) (by decide) (fun K hK => ?_)
  have sc := blk_cell BP.out 12
  have sf := blk_frozen BP.out 12
  replace sc : wa16.cell? ⟨g, 12, none⟩ = some (.slice A12 R.f12.length c12) := sc.trans rfl
  refine skip_ (w1 := ?_) (by rfl) rfl ?_ ?_
  rotate_left
  · go_simp
    rfl
  clear sc sf
  refine hK.out _ _ ?_
  clear hK K
  refine pure_ (i := 14) (N := some 32) (v := ?_) (a' := ?_) #[true, true, true, true, true, true, true, true, true, true, true, true, true, true, true, false, false, false, false, false] rfl rfl (any_of HT_.out (by kernel_rfl)) (fun _ _ _ h => h) (Or.inl ⟨by rfl, ?_⟩) ?_ ?_
  rotate_left
  · intro w'
    go_simp
    with_reducible rfl
  rotate_left
  · simp only [Act.put, List.setIfInBounds_toArray, List.set_cons_zero, List.set_cons_succ, i64_w, i32_w]
    rfl
  refine last_ (i := 15) (N := none) #[true, true, true, true, true, true, true, true, true, true, true, true, true, true, true, true, false, false, false, false] rfl rfl (one_of HT_.out (by kernel_rfl)) (by decide) (fun K hK => ?_)
  obtain ⟨wb12, hwb⟩ : ∃ wb, wb = wa16.setCell ⟨g, 12, none⟩ (.slice E12 R.f12.length e12) := ⟨_, rfl⟩
  rw [← hwb]
  have n_BP : Aside0 (wb12.heap[g]? = some (.cells #[.string R.f0, .int .i64 R.f1, .int .i64 R.f2, .int .i64 R.f3, .int .i64 R.f4, .int .i64 R.f5, .slice E6 R.f6.length e6, .slice E7 R.f7.length e7, .slice E8 R.f8.length e8, .slice E9 R.f9.length e9, .int .i64 R.f10, .int .i64 R.f11, .slice E12 R.f12.length e12, .int .i64 R.f13, .slice A14 R.f14.length c14, .slice A15 R.f15.length c15, .slice A16 R.f16.length c16, .int .i64 R.f17] 30 (0, 0))) := ⟨by rw [hwb]; exact blk_put BP.out 12 _ rfl⟩
  have n_BQ : Aside0 (wb12.heap[g2]? = some (.cells #[.string (⟨#[]⟩ : ByteArray), .int .i64 0, .int .i64 0, .int .i64 0, .int .i64 0, .int .i64 0, .slice none 0 0, .slice none 0 0, .slice none 0 0, .slice none 0 0, .int .i64 0, .int .i64 0, .slice none 0 0, .int .i64 0, .slice none 0 0, .slice none 0 0, .slice none 0 0, .int .i64 0] 30 (0, 0))) := ⟨by rw [hwb]; exact (Below.heap_setCell _ _ _ _ hg2).trans BQ.out⟩
  have n_HB : Aside0 (Below w.heap.size w wb12) := ⟨by rw [hwb]; exact HB.out.setCell hg1 _⟩
  have n_R6 : Aside0 (Kd.R (Kd.int .i64) 3 wb12 w.heap.size (fun _ => True) (.slice E6 R.f6.length e6) R.f6) := ⟨by rw [hwb]; exact Kd.R_set R6.out BP.out (by decide) 12 _⟩
  have n_R7 : Aside0 (Kd.R k93 93 wb12 w.heap.size (fun _ => True) (.slice E7 R.f7.length e7) R.f7) := ⟨by rw [hwb]; exact Kd.R_set R7.out BP.out (by decide) 12 _⟩
  have n_R8 : Aside0 (Kd.R (Kd.int .i64) 3 wb12 w.heap.size (fun _ => True) (.slice E8 R.f8.length e8) R.f8) := ⟨by rw [hwb]; exact Kd.R_set R8.out BP.out (by decide) 12 _⟩
  have n_R9 : Aside0 (Kd.R (Kd.int .i64) 3 wb12 w.heap.size (fun _ => True) (.slice E9 R.f9.length e9) R.f9) := ⟨by rw [hwb]; exact Kd.R_set R9.out BP.out (by decide) 12 _⟩
  have n_R12 : Aside0 (Kd.R (Kd.int .i64) 3 wb12 w.heap.size (fun _ => True) (.slice E12 R.f12.length e12) R.f12) := ⟨by rw [hwb]; exact Kd.R_set R12.out BP.out (by decide) 12 _⟩
  have n_R14 : Aside0 (Kd.R (Kd.int .i64) 3 wb12 w.heap.size (fun _ => True) (.slice E14 R.f14.length e14) R.f14) := ⟨by rw [hwb]; exact Kd.R_set R14.out BP.out (by decide) 12 _⟩
  have n_R15 : Aside0 (Kd.R (Kd.int .i64) 3 wb12 w.heap.size (fun _ => True) (.slice E15 R.f15.length e15) R.f15) := ⟨by rw [hwb]; exact Kd.R_set R15.out BP.out (by decide) 12 _⟩
  have n_R16 : Aside0 (Kd.R (Kd.int .i64) 3 wb12 w.heap.size (fun _ => True) (.slice E16 R.f16.length e16) R.f16) := ⟨by rw [hwb]; exact Kd.R_set R16.out BP.out (by decide) 12 _⟩
  clear BP BQ HB R6 R7 R8 R9 R12 R14 R15 R16 hwb
  have BP := n_BP
  have BQ := n_BQ
  have HB := n_HB
  have R6 := n_R6
  have R7 := n_R7
  have R8 := n_R8
  have R9 := n_R9
  have R12 := n_R12
  have R14 := n_R14
  have R15 := n_R15
  have R16 := n_R16
  clear n_BP n_BQ n_HB n_R6 n_R7 n_R8 n_R9 n_R12 n_R14 n_R15 n_R16
  have sc := blk_cell BP.out 14
  have sf := blk_frozen BP.out 14
  replace sc : wb12.cell? ⟨g, 14, none⟩ = some (.slice A14 R.f14.length c14) := sc.trans rfl
  refine skip_ (w1 := ?_) (by rfl) rfl ?_ ?_
  rotate_left
  · go_simp
    rfl
  clear sc sf
  refine hK.out _ _ ?_
  clear hK K
  refine pure_ (i := 16) (N := some 33) (v := ?_) (a' := ?_) #[true, true, true, true, true, true, true, true, true, true, true, true, true, true, true, true, true, false, false, false] rfl rfl (any_of HT_.out (by kernel_rfl)) (fun _ _ _ h => h) (Or.inl ⟨by rfl, ?_⟩) ?_ ?_
  rotate_left
  · intro w'
    go_simp
    with_reducible rfl
  rotate_left
  · simp only [Act.put, List.setIfInBounds_toArray, List.set_cons_zero, List.set_cons_succ, i64_w, i32_w]
    rfl
  refine last_ (i := 17) (N := none) #[true, true, true, true, true, true, true, true, true, true, true, true, true, true, true, true, true, true, false, false] rfl rfl (one_of HT_.out (by kernel_rfl)) (by decide) (fun K hK => ?_)
  obtain ⟨wb14, hwb⟩ : ∃ wb, wb = wb12.setCell ⟨g, 14, none⟩ (.slice E14 R.f14.length e14) := ⟨_, rfl⟩
  rw [← hwb]
  have n_BP : Aside0 (wb14.heap[g]? = some (.cells #[.string R.f0, .int .i64 R.f1, .int .i64 R.f2, .int .i64 R.f3, .int .i64 R.f4, .int .i64 R.f5, .slice E6 R.f6.length e6, .slice E7 R.f7.length e7, .slice E8 R.f8.length e8, .slice E9 R.f9.length e9, .int .i64 R.f10, .int .i64 R.f11, .slice E12 R.f12.length e12, .int .i64 R.f13, .slice E14 R.f14.length e14, .slice A15 R.f15.length c15, .slice A16 R.f16.length c16, .int .i64 R.f17] 30 (0, 0))) := ⟨by rw [hwb]; exact blk_put BP.out 14 _ rfl⟩
  have n_BQ : Aside0 (wb14.heap[g2]? = some (.cells #[.string (⟨#[]⟩ : ByteArray), .int .i64 0, .int .i64 0, .int .i64 0, .int .i64 0, .int .i64 0, .slice none 0 0, .slice none 0 0, .slice none 0 0, .slice none 0 0, .int .i64 0, .int .i64 0, .slice none 0 0, .int .i64 0, .slice none 0 0, .slice none 0 0, .slice none 0 0, .int .i64 0] 30 (0, 0))) := ⟨by rw [hwb]; exact (Below.heap_setCell _ _ _ _ hg2).trans BQ.out⟩
  have n_HB : Aside0 (Below w.heap.size w wb14) := ⟨by rw [hwb]; exact HB.out.setCell hg1 _⟩
  have n_R6 : Aside0 (Kd.R (Kd.int .i64) 3 wb14 w.heap.size (fun _ => True) (.slice E6 R.f6.length e6) R.f6) := ⟨by rw [hwb]; exact Kd.R_set R6.out BP.out (by decide) 14 _⟩
  have n_R7 : Aside0 (Kd.R k93 93 wb14 w.heap.size (fun _ => True) (.slice E7 R.f7.length e7) R.f7) := ⟨by rw [hwb]; exact Kd.R_set R7.out BP.out (by decide) 14 _⟩
  have n_R8 : Aside0 (Kd.R (Kd.int .i64) 3 wb14 w.heap.size (fun _ => True) (.slice E8 R.f8.length e8) R.f8) := ⟨by rw [hwb]; exact Kd.R_set R8.out BP.out (by decide) 14 _⟩
  have n_R9 : Aside0 (Kd.R (Kd.int .i64) 3 wb14 w.heap.size (fun _ => True) (.slice E9 R.f9.length e9) R.f9) := ⟨by rw [hwb]; exact Kd.R_set R9.out BP.out (by decide) 14 _⟩
  have n_R12 : Aside0 (Kd.R (Kd.int .i64) 3 wb14 w.heap.size (fun _ => True) (.slice E12 R.f12.length e12) R.f12) := ⟨by rw [hwb]; exact Kd.R_set R12.out BP.out (by decide) 14 _⟩
  have n_R14 : Aside0 (Kd.R (Kd.int .i64) 3 wb14 w.heap.size (fun _ => True) (.slice E14 R.f14.length e14) R.f14) := ⟨by rw [hwb]; exact Kd.R_set R14.out BP.out (by decide) 14 _⟩
  have n_R15 : Aside0 (Kd.R (Kd.int .i64) 3 wb14 w.heap.size (fun _ => True) (.slice E15 R.f15.length e15) R.f15) := ⟨by rw [hwb]; exact Kd.R_set R15.out BP.out (by decide) 14 _⟩
  have n_R16 : Aside0 (Kd.R (Kd.int .i64) 3 wb14 w.heap.size (fun _ => True) (.slice E16 R.f16.length e16) R.f16) := ⟨by rw [hwb]; exact Kd.R_set R16.out BP.out (by decide) 14 _⟩
  clear BP BQ HB R6 R7 R8 R9 R12 R14 R15 R16 hwb
  have BP := n_BP
  have BQ := n_BQ
  have HB := n_HB
  have R6 := n_R6
  have R7 := n_R7
  have R8 := n_R8
  have R9 := n_R9
  have R12 := n_R12
  have R14 := n_R14
  have R15 := n_R15
  have R16 := n_R16
  clear n_BP n_BQ n_HB n_R6 n_R7 n_R8 n_R9 n_R12 n_R14 n_R15 n_R16
  have sc := blk_cell BP.out 15
  have sf := blk_frozen BP.out 15
  replace sc : wb14.cell? ⟨g, 15, none⟩ = some (.slice A15 R.f15.length c15) := sc.trans rfl
  refine skip_ (w1 := ?_) (by rfl) rfl ?_ ?_
  rotate_left
  · go_simp
    rfl
  clear sc sf
  refine hK.out _ _ ?_
  clear hK K
  refine pure_ (i := 18) (N := some 34) (v := ?_) (a' := ?_) #[true, true, true, true, true, true, true, true, true, true, true, true, true, true, true, true, true, true, true, false] rfl rfl (any_of HT_.out (by kernel_rfl)) (fun _ _ _ h => h) (Or.inl ⟨by rfl, ?_⟩) ?_ ?_
  rotate_left
  · intro w'
    go_simp
    with_reducible rfl
  rotate_left
  · simp only [Act.put, List.setIfInBounds_toArray, List.set_cons_zero, List.set_cons_succ, i64_w, i32_w]
    rfl
  refine last_ (i := 19) (N := none) #[true, true, true, true, true, true, true, true, true, true, true, true, true, true, true, true, true, true, true, true] rfl rfl (one_of HT_.out (by kernel_rfl)) (by decide) (fun K hK => ?_)
  obtain ⟨wb15, hwb⟩ : ∃ wb, wb = wb14.setCell ⟨g, 15, none⟩ (.slice E15 R.f15.length e15) := ⟨_, rfl⟩
  rw [← hwb]
  have n_BP : Aside0 (wb15.heap[g]? = some (.cells #[.string R.f0, .int .i64 R.f1, .int .i64 R.f2, .int .i64 R.f3, .int .i64 R.f4, .int .i64 R.f5, .slice E6 R.f6.length e6, .slice E7 R.f7.length e7, .slice E8 R.f8.length e8, .slice E9 R.f9.length e9, .int .i64 R.f10, .int .i64 R.f11, .slice E12 R.f12.length e12, .int .i64 R.f13, .slice E14 R.f14.length e14, .slice E15 R.f15.length e15, .slice A16 R.f16.length c16, .int .i64 R.f17] 30 (0, 0))) := ⟨by rw [hwb]; exact blk_put BP.out 15 _ rfl⟩
  have n_BQ : Aside0 (wb15.heap[g2]? = some (.cells #[.string (⟨#[]⟩ : ByteArray), .int .i64 0, .int .i64 0, .int .i64 0, .int .i64 0, .int .i64 0, .slice none 0 0, .slice none 0 0, .slice none 0 0, .slice none 0 0, .int .i64 0, .int .i64 0, .slice none 0 0, .int .i64 0, .slice none 0 0, .slice none 0 0, .slice none 0 0, .int .i64 0] 30 (0, 0))) := ⟨by rw [hwb]; exact (Below.heap_setCell _ _ _ _ hg2).trans BQ.out⟩
  have n_HB : Aside0 (Below w.heap.size w wb15) := ⟨by rw [hwb]; exact HB.out.setCell hg1 _⟩
  have n_R6 : Aside0 (Kd.R (Kd.int .i64) 3 wb15 w.heap.size (fun _ => True) (.slice E6 R.f6.length e6) R.f6) := ⟨by rw [hwb]; exact Kd.R_set R6.out BP.out (by decide) 15 _⟩
  have n_R7 : Aside0 (Kd.R k93 93 wb15 w.heap.size (fun _ => True) (.slice E7 R.f7.length e7) R.f7) := ⟨by rw [hwb]; exact Kd.R_set R7.out BP.out (by decide) 15 _⟩
  have n_R8 : Aside0 (Kd.R (Kd.int .i64) 3 wb15 w.heap.size (fun _ => True) (.slice E8 R.f8.length e8) R.f8) := ⟨by rw [hwb]; exact Kd.R_set R8.out BP.out (by decide) 15 _⟩
  have n_R9 : Aside0 (Kd.R (Kd.int .i64) 3 wb15 w.heap.size (fun _ => True) (.slice E9 R.f9.length e9) R.f9) := ⟨by rw [hwb]; exact Kd.R_set R9.out BP.out (by decide) 15 _⟩
  have n_R12 : Aside0 (Kd.R (Kd.int .i64) 3 wb15 w.heap.size (fun _ => True) (.slice E12 R.f12.length e12) R.f12) := ⟨by rw [hwb]; exact Kd.R_set R12.out BP.out (by decide) 15 _⟩
  have n_R14 : Aside0 (Kd.R (Kd.int .i64) 3 wb15 w.heap.size (fun _ => True) (.slice E14 R.f14.length e14) R.f14) := ⟨by rw [hwb]; exact Kd.R_set R14.out BP.out (by decide) 15 _⟩
  have n_R15 : Aside0 (Kd.R (Kd.int .i64) 3 wb15 w.heap.size (fun _ => True) (.slice E15 R.f15.length e15) R.f15) := ⟨by rw [hwb]; exact Kd.R_set R15.out BP.out (by decide) 15 _⟩
  have n_R16 : Aside0 (Kd.R (Kd.int .i64) 3 wb15 w.heap.size (fun _ => True) (.slice E16 R.f16.length e16) R.f16) := ⟨by rw [hwb]; exact Kd.R_set R16.out BP.out (by decide) 15 _⟩
  clear BP BQ HB R6 R7 R8 R9 R12 R14 R15 R16 hwb
  have BP := n_BP
  have BQ := n_BQ
  have HB := n_HB
  have R6 := n_R6
  have R7 := n_R7
  have R8 := n_R8
  have R9 := n_R9
  have R12 := n_R12
  have R14 := n_R14
  have R15 := n_R15
  have R16 := n_R16
  clear n_BP n_BQ n_HB n_R6 n_R7 n_R8 n_R9 n_R12 n_R14 n_R15 n_R16
  have sc := blk_cell BP.out 16
  have sf := blk_frozen BP.out 16
  replace sc : wb15.cell? ⟨g, 16, none⟩ = some (.slice A16 R.f16.length c16) := sc.trans rfl
  refine skip_ (w1 := ?_) (by rfl) rfl ?_ ?_
  rotate_left
  · go_simp
    rfl
  clear sc sf
  refine hK.out _ _ ?_
  clear hK K
  refine done_ (done_of HT_.out (by kernel_rfl)) ?_
  obtain ⟨wb16, hwb⟩ : ∃ wb, wb = wb15.setCell ⟨g, 16, none⟩ (.slice E16 R.f16.length e16) := ⟨_, rfl⟩
  rw [← hwb]
  have n_BP : Aside0 (wb16.heap[g]? = some (.cells #[.string R.f0, .int .i64 R.f1, .int .i64 R.f2, .int .i64 R.f3, .int .i64 R.f4, .int .i64 R.f5, .slice E6 R.f6.length e6, .slice E7 R.f7.length e7, .slice E8 R.f8.length e8, .slice E9 R.f9.length e9, .int .i64 R.f10, .int .i64 R.f11, .slice E12 R.f12.length e12, .int .i64 R.f13, .slice E14 R.f14.length e14, .slice E15 R.f15.length e15, .slice E16 R.f16.length e16, .int .i64 R.f17] 30 (0, 0))) := ⟨by rw [hwb]; exact blk_put BP.out 16 _ rfl⟩
  have n_BQ : Aside0 (wb16.heap[g2]? = some (.cells #[.string (⟨#[]⟩ : ByteArray), .int .i64 0, .int .i64 0, .int .i64 0, .int .i64 0, .int .i64 0, .slice none 0 0, .slice none 0 0, .slice none 0 0, .slice none 0 0, .int .i64 0, .int .i64 0, .slice none 0 0, .int .i64 0, .slice none 0 0, .slice none 0 0, .slice none 0 0, .int .i64 0] 30 (0, 0))) := ⟨by rw [hwb]; exact (Below.heap_setCell _ _ _ _ hg2).trans BQ.out⟩
  have n_HB : Aside0 (Below w.heap.size w wb16) := ⟨by rw [hwb]; exact HB.out.setCell hg1 _⟩
  have n_R6 : Aside0 (Kd.R (Kd.int .i64) 3 wb16 w.heap.size (fun _ => True) (.slice E6 R.f6.length e6) R.f6) := ⟨by rw [hwb]; exact Kd.R_set R6.out BP.out (by decide) 16 _⟩
  have n_R7 : Aside0 (Kd.R k93 93 wb16 w.heap.size (fun _ => True) (.slice E7 R.f7.length e7) R.f7) := ⟨by rw [hwb]; exact Kd.R_set R7.out BP.out (by decide) 16 _⟩
  have n_R8 : Aside0 (Kd.R (Kd.int .i64) 3 wb16 w.heap.size (fun _ => True) (.slice E8 R.f8.length e8) R.f8) := ⟨by rw [hwb]; exact Kd.R_set R8.out BP.out (by decide) 16 _⟩
  have n_R9 : Aside0 (Kd.R (Kd.int .i64) 3 wb16 w.heap.size (fun _ => True) (.slice E9 R.f9.length e9) R.f9) := ⟨by rw [hwb]; exact Kd.R_set R9.out BP.out (by decide) 16 _⟩
  have n_R12 : Aside0 (Kd.R (Kd.int .i64) 3 wb16 w.heap.size (fun _ => True) (.slice E12 R.f12.length e12) R.f12) := ⟨by rw [hwb]; exact Kd.R_set R12.out BP.out (by decide) 16 _⟩
  have n_R14 : Aside0 (Kd.R (Kd.int .i64) 3 wb16 w.heap.size (fun _ => True) (.slice E14 R.f14.length e14) R.f14) := ⟨by rw [hwb]; exact Kd.R_set R14.out BP.out (by decide) 16 _⟩
  have n_R15 : Aside0 (Kd.R (Kd.int .i64) 3 wb16 w.heap.size (fun _ => True) (.slice E15 R.f15.length e15) R.f15) := ⟨by rw [hwb]; exact Kd.R_set R15.out BP.out (by decide) 16 _⟩
  have n_R16 : Aside0 (Kd.R (Kd.int .i64) 3 wb16 w.heap.size (fun _ => True) (.slice E16 R.f16.length e16) R.f16) := ⟨by rw [hwb]; exact Kd.R_set R16.out BP.out (by decide) 16 _⟩
  clear BP BQ HB R6 R7 R8 R9 R12 R14 R15 R16 hwb
  have BP := n_BP
  have BQ := n_BQ
  have HB := n_HB
  have R6 := n_R6
  have R7 := n_R7
  have R8 := n_R8
  have R9 := n_R9
  have R12 := n_R12
  have R14 := n_R14
  have R15 := n_R15
  have R16 := n_R16
  clear n_BP n_BQ n_HB n_R6 n_R7 n_R8 n_R9 n_R12 n_R14 n_R15 n_R16
  go_wp2_with ((with_reducible refine gate_dst (N := 35) rfl ?_); refine copy_event rfl rfl 30 (.tmp 1) (.tmp 2) rfl rfl rfl rfl g g2 30 #[.string (⟨#[]⟩ : ByteArray), .int .i64 0, .int .i64 0, .int .i64 0, .int .i64 0, .int .i64 0, .slice none 0 0, .slice none 0 0, .slice none 0 0, .slice none 0 0, .int .i64 0, .int .i64 0, .slice none 0 0, .int .i64 0, .slice none 0 0, .slice none 0 0, .slice none 0 0, .int .i64 0] #[.string R.f0, .int .i64 R.f1, .int .i64 R.f2, .int .i64 R.f3, .int .i64 R.f4, .int .i64 R.f5, .slice E6 R.f6.length e6, .slice E7 R.f7.length e7, .slice E8 R.f8.length e8, .slice E9 R.f9.length e9, .int .i64 R.f10, .int .i64 R.f11, .slice E12 R.f12.length e12, .int .i64 R.f13, .slice E14 R.f14.length e14, .slice E15 R.f15.length e15, .slice E16 R.f16.length e16, .int .i64 R.f17] (by go_simp) (by go_simp) (by go_simp) BP.out BQ.out (fun w => Tryd.sizeOf30 w) Tryd.isAgg30 (by kernel_rfl) rfl (by simp [Value.oneCell']) ?_; intro w9 hb9 hm9 hB9)
  have r6 := Kd.R_mono (R_copy R6.out BQ.out (by decide) hm9) (fun _ _ => trivial)
  have r7 := Kd.R_mono (R_copy R7.out BQ.out (by decide) hm9) (fun _ _ => trivial)
  have r8 := Kd.R_mono (R_copy R8.out BQ.out (by decide) hm9) (fun _ _ => trivial)
  have r9 := Kd.R_mono (R_copy R9.out BQ.out (by decide) hm9) (fun _ _ => trivial)
  have r12 := Kd.R_mono (R_copy R12.out BQ.out (by decide) hm9) (fun _ _ => trivial)
  have r14 := Kd.R_mono (R_copy R14.out BQ.out (by decide) hm9) (fun _ _ => trivial)
  have r15 := Kd.R_mono (R_copy R15.out BQ.out (by decide) hm9) (fun _ _ => trivial)
  have r16 := Kd.R_mono (R_copy R16.out BQ.out (by decide) hm9) (fun _ _ => trivial)
  have hBn := hB9 _ _ HB.out hg3
  go_wp2_with fail
  refine bodyPost_ret (results_cell_row rfl _ _ g2 30 #[.string R.f0, .int .i64 R.f1, .int .i64 R.f2, .int .i64 R.f3, .int .i64 R.f4, .int .i64 R.f5, .slice E6 R.f6.length e6, .slice E7 R.f7.length e7, .slice E8 R.f8.length e8, .slice E9 R.f9.length e9, .int .i64 R.f10, .int .i64 R.f11, .slice E12 R.f12.length e12, .int .i64 R.f13, .slice E14 R.f14.length e14, .slice E15 R.f15.length e15, .slice E16 R.f16.length e16, .int .i64 R.f17] (0, 0) _ rfl hb9 Tryd.underlying30 rfl (by kernel_rfl)) rfl ?_
  exact ⟨_, rfl, k30_mkM w9 w.heap.size (fun _ => True) R r6 r7 r8 r9 r12 r14 r15 r16, hBn⟩
def copyOf.T1 : Bool × List (List Nat × List Nat) := (true, [([], []), ([0], [0]), ([1], [1]), ([], []), ([3], [3]), ([4, 2], [4]), ([], []), ([6], [6]), ([7, 5], [7]), ([0, 1, 2, 3, 4, 6, 7], []), ([9, 2, 8, 0, 1, 2, 3, 4, 6, 7], [2, 9]), ([0, 1, 2, 3, 4, 5, 6, 7, 9, 10], []), ([11, 5, 10, 0, 1, 2, 3, 4, 5, 6, 7, 9, 10], [5, 11]), ([0, 1, 2, 3, 4, 5, 6, 7, 8, 9, 10, 11, 12], []), ([13, 8, 12, 0, 1, 2, 3, 4, 5, 6, 7, 8, 9, 10, 11, 12], [8, 13])])
def copyOf.B1 : List Nat := [0, 1, 3, 0, 8, 31, 0, 64, 255, 223, 1023, 2047, 4095, 8191, 16383]
theorem copyOf.tab1 : rtab .any (opsOf Tryd.f15 1) = copyOf.T1 := by kernel_rfl
theorem copyOf.bits1 : waitsOk copyOf.T1.2 copyOf.B1 = true := by kernel_rfl
def copyOf.T2 : Bool × List (List Nat × List Nat) := (true, [([], []), ([0], [0]), ([1], [1]), ([], []), ([3], [3]), ([4, 2], [4]), ([], []), ([6], [6]), ([7, 5], [7]), ([0, 1, 2, 3, 4, 6, 7], []), ([9, 2, 8, 0, 1, 2, 3, 4, 6, 7], [2, 9]), ([0, 1, 2, 3, 4, 5, 6, 7, 9, 10], []), ([11, 5, 10, 0, 1, 2, 3, 4, 5, 6, 7, 9, 10], [5, 11]), ([0, 1, 2, 3, 4, 5, 6, 7, 8, 9, 10, 11, 12], []), ([13, 8, 12, 0, 1, 2, 3, 4, 5, 6, 7, 8, 9, 10, 11, 12], [8, 13])])
def copyOf.B2 : List Nat := [0, 1, 3, 0, 8, 31, 0, 64, 255, 223, 1023, 2047, 4095, 8191, 16383]
theorem copyOf.tab2 : rtab .any (opsOf Tryd.f15 2) = copyOf.T2 := by kernel_rfl
theorem copyOf.bits2 : waitsOk copyOf.T2.2 copyOf.B2 = true := by kernel_rfl
theorem R_iv {α : Type} {d : Kd α} {e : Nat} {W w' : World} {v : Value} {xs : List α} (h : d.R e w' W.heap.size (fun _ => True) v xs) : ∃ lo hi, lo = W.heap.size ∧ hi = w'.heap.size ∧ d.R e w' lo (fun x => lo ≤ x ∧ x < hi) v xs :=
  ⟨_, _, rfl, rfl, Kd.R_mono (Kd.R_bound h) (fun k hk => ⟨hk.2.1, hk.2.2.1⟩)⟩
/-- The family's cells, every row in blocks of its own. -/
def OwnP (w : World) (base : Nat) (P : S27) (cs : List Value) : Prop := ∃ v2 v3 v4 v6 v7 v8 v9 lo2 hi2 lo3 hi3 lo4 hi4 lo6 hi6 lo7 hi7 lo8 hi8 lo9, cs = [.string P.f0, .int .i64 P.f1, v2, v3, v4, .int .i64 P.f5, v6, v7, v8, v9] ∧
  Kd.R Kd.string 9 w base (fun x => lo2 ≤ x ∧ x < hi2) v2 P.f2 ∧ Kd.R Kd.string 9 w base (fun x => lo3 ≤ x ∧ x < hi3) v3 P.f3 ∧ Kd.R Kd.string 9 w base (fun x => lo4 ≤ x ∧ x < hi4) v4 P.f4 ∧ Kd.R k48 48 w base (fun x => lo6 ≤ x ∧ x < hi6) v6 P.f6 ∧ Kd.R (Kd.int .i64) 3 w base (fun x => lo7 ≤ x ∧ x < hi7) v7 P.f7 ∧ Kd.R (Kd.int .i64) 3 w base (fun x => lo8 ≤ x ∧ x < hi8) v8 P.f8 ∧ Kd.R k30 30 w base (fun x => lo9 ≤ x) v9 P.f9 ∧
  hi2 ≤ lo3 ∧ hi3 ≤ lo4 ∧ hi4 ≤ lo6 ∧ hi6 ≤ lo7 ∧ hi7 ≤ lo8 ∧ hi8 ≤ lo9 ∧ lo3 ≤ hi3 ∧ lo4 ≤ hi4 ∧ lo6 ≤ hi6 ∧ lo7 ≤ hi7 ∧ lo8 ≤ hi8
/-- The family's lists are not long. -/
structure Tame (P : S27) : Prop where
  h2 : P.f2.length ≤ 1000
  h3 : P.f3.length ≤ 1000
  h4 : P.f4.length ≤ 1000
  h6 : P.f6.length ≤ 1000
  h7 : P.f7.length ≤ 1000
  h8 : P.f8.length ≤ 1000
  h9 : P.f9.length ≤ 1000
  hr : ∀ i, i < P.f9.length → ruleSum (P.f9.getD i z30) ≤ 1000000
set_option maxHeartbeats 8000000 in
theorem copyOf_any (P : S27) (cs : List Value) (w : World) (hP : k27.K w P cs) (hT : Tame P) :
    Calls Tryd.prog 15 #[.agg cs.toArray] w fun e w' => ∃ cs', e = .returned (.agg cs'.toArray) ∧ OwnP w' w.heap.size P cs' ∧ Below w.heap.size w w' := by
  obtain ⟨A2, c2, A3, c3, A4, c4, A6, c6, A7, c7, A8, c8, A9, c9, rfl, l2, g2', l3, g3, l4, g4, l6, g6, l7, g7, l8, g8, l9, g9⟩ := k27_open hP
  have HT := Aside0.mk hT
  have G2 := Aside0.mk g2'
  have G9 := Aside0.mk g9
  have h9 := hT.h9
  have q2 : Aside0 (clone_string.f P.f2 = some P.f2) := ⟨by unfold clone_string.f; exact if_pos (by have := hT.h2; omega)⟩
  have G3 := Aside0.mk g3
  have q3 : Aside0 (clone_string.f P.f3 = some P.f3) := ⟨by unfold clone_string.f; exact if_pos (by have := hT.h3; omega)⟩
  have G4 := Aside0.mk g4
  have q4 : Aside0 (clone_string.f P.f4 = some P.f4) := ⟨by unfold clone_string.f; exact if_pos (by have := hT.h4; omega)⟩
  have G6 := Aside0.mk g6
  have q6 : Aside0 (clone_linear.f P.f6 = some P.f6) := ⟨by unfold clone_linear.f; exact if_pos (by have := hT.h6; omega)⟩
  have G7 := Aside0.mk g7
  have q7 : Aside0 (clone_int.f P.f7 = some P.f7) := ⟨by unfold clone_int.f; exact if_pos (by have := hT.h7; omega)⟩
  have G8 := Aside0.mk g8
  have q8 : Aside0 (clone_int.f P.f8 = some P.f8) := ⟨by unfold clone_int.f; exact if_pos (by have := hT.h8; omega)⟩
  clear hP hT g2' g3 g4 g6 g7 g8 g9
  go_enter Tryd.func15, Tryd.ntmps15
  go_upto_region 1 with (fail)
  obtain ⟨g, hg⟩ : ∃ g, g = w.heap.size := ⟨_, rfl⟩
  obtain ⟨g2, hg2e⟩ : ∃ g2, g2 = w.heap.size + 1 := ⟨_, rfl⟩
  obtain ⟨w1, hw1⟩ : ∃ w1, w1 = (w.alloc (.cells #[.string P.f0, .int .i64 P.f1, .slice A2 P.f2.length c2, .slice A3 P.f3.length c3, .slice A4 P.f4.length c4, .int .i64 P.f5, .slice A6 P.f6.length c6, .slice A7 P.f7.length c7, .slice A8 P.f8.length c8, .slice A9 P.f9.length c9] 27)).alloc (.cells #[.string (⟨#[]⟩ : ByteArray), .int .i64 0, .slice none 0 0, .slice none 0 0, .slice none 0 0, .int .i64 0, .slice none 0 0, .slice none 0 0, .slice none 0 0, .slice none 0 0] 27) := ⟨_, rfl⟩
  rw [← hw1]
  have BP : Aside0 (w1.heap[g]? = some (.cells #[.string P.f0, .int .i64 P.f1, .slice A2 P.f2.length c2, .slice A3 P.f3.length c3, .slice A4 P.f4.length c4, .int .i64 P.f5, .slice A6 P.f6.length c6, .slice A7 P.f7.length c7, .slice A8 P.f8.length c8, .slice A9 P.f9.length c9] 27 (0, 0))) := ⟨by rw [hw1, hg]; exact blk_alloc (heap_alloc_new w _) _⟩
  have BQ : Aside0 (w1.heap[g2]? = some (.cells #[.string (⟨#[]⟩ : ByteArray), .int .i64 0, .slice none 0 0, .slice none 0 0, .slice none 0 0, .int .i64 0, .slice none 0 0, .slice none 0 0, .slice none 0 0, .slice none 0 0] 27 (0, 0))) := ⟨by rw [hw1, hg2e, show w.heap.size + 1 = (w.alloc (.cells #[.string P.f0, .int .i64 P.f1, .slice A2 P.f2.length c2, .slice A3 P.f3.length c3, .slice A4 P.f4.length c4, .int .i64 P.f5, .slice A6 P.f6.length c6, .slice A7 P.f7.length c7, .slice A8 P.f8.length c8, .slice A9 P.f9.length c9] 27)).heap.size from by simp]; exact heap_alloc_new _ _⟩
  have HB : Aside0 (Below w.heap.size w w1) := ⟨by rw [hw1]; exact ((Below.refl _ _).alloc (Nat.le_refl _) _).alloc (by simp) _⟩
  have hg1 : w.heap.size ≤ g := by omega
  have hg2 : g2 ≠ g := by omega
  have hg3 : w.heap.size ≤ g2 := by omega
  simp only [← hg2e]
  simp only [← hg]
  clear hw1 hg hg2e
  have n_BP := Aside0.mk (blk_drew BP.out)
  have n_BQ := Aside0.mk (blk_drew BQ.out)
  have n_HB := Aside0.mk (below_drew1 HB.out)
  clear BP BQ HB
  have BP := n_BP
  have BQ := n_BQ
  have HB := n_HB
  clear n_BP n_BQ n_HB
  refine start_ (n := 15) (S := fun w' => w'.cell? ⟨g, 2, none⟩ = some (.slice A2 P.f2.length c2) ∧ w'.cell? ⟨g, 3, none⟩ = some (.slice A3 P.f3.length c3) ∧ w'.cell? ⟨g, 4, none⟩ = some (.slice A4 P.f4.length c4)) (ds := [10, 12, 14]) #[false, false, false, false, false, false, false, false, false, false, false, false, false, false, false] (by kernel_rfl) rfl rfl ⟨(blk_cell BP.out 2).trans rfl, (blk_cell BP.out 3).trans rfl, (blk_cell BP.out 4).trans rfl⟩ (fun hHeld => ?_)
  refine with_tabW copyOf.tab1 copyOf.bits1 (fun HT_ HW_ => ?_)
  refine pure_ (i := 0) (N := some 6) (v := ?_) (a' := ?_) #[true, false, false, false, false, false, false, false, false, false, false, false, false, false, false] rfl rfl (any_of HT_.out (by kernel_rfl)) (fun _ _ _ h => h) (Or.inl ⟨by rfl, ?_⟩) ?_ ?_
  rotate_left
  · intro w'
    go_simp
    with_reducible rfl
  rotate_left
  · simp only [Act.put, List.setIfInBounds_toArray, List.set_cons_zero, List.set_cons_succ, i64_w, i32_w]
    rfl
  refine pure_ (i := 3) (N := some 9) (v := ?_) (a' := ?_) #[true, false, false, true, false, false, false, false, false, false, false, false, false, false, false] rfl rfl (any_of HT_.out (by kernel_rfl)) (fun _ _ _ h => h) (Or.inl ⟨by rfl, ?_⟩) ?_ ?_
  rotate_left
  · intro w'
    go_simp
    with_reducible rfl
  rotate_left
  · simp only [Act.put, List.setIfInBounds_toArray, List.set_cons_zero, List.set_cons_succ, i64_w, i32_w]
    rfl
  refine pure_ (i := 6) (N := some 12) (v := ?_) (a' := ?_) #[true, false, false, true, false, false, true, false, false, false, false, false, false, false, false] rfl rfl (any_of HT_.out (by kernel_rfl)) (fun _ _ _ h => h) (Or.inl ⟨by rfl, ?_⟩) ?_ ?_
  rotate_left
  · intro w'
    go_simp
    with_reducible rfl
  rotate_left
  · simp only [Act.put, List.setIfInBounds_toArray, List.set_cons_zero, List.set_cons_succ, i64_w, i32_w]
    rfl
  refine take_ (i := 1) (N := some 7) (v := ?_) (a' := ?_) #[true, true, false, true, false, false, true, false, false, false, false, false, false, false, false] rfl rfl (take_ofW HT_.out HW_.out (by kernel_rfl)) (fun _ _ _ h => h) (Or.inl ⟨by rfl, ?_⟩) hHeld ?_ ?_
  rotate_left
  · rintro w' ⟨s0, s1, s2⟩
    go_simp
    with_reducible rfl
  rotate_left
  · simp only [Act.put, List.setIfInBounds_toArray, List.set_cons_zero, List.set_cons_succ, i64_w, i32_w]
    rfl
  refine take_ (i := 4) (N := some 10) (v := ?_) (a' := ?_) #[true, true, false, true, true, false, true, false, false, false, false, false, false, false, false] rfl rfl (take_ofW HT_.out HW_.out (by kernel_rfl)) (fun _ _ _ h => h) (Or.inl ⟨by rfl, ?_⟩) hHeld ?_ ?_
  rotate_left
  · rintro w' ⟨s0, s1, s2⟩
    go_simp
    with_reducible rfl
  rotate_left
  · simp only [Act.put, List.setIfInBounds_toArray, List.set_cons_zero, List.set_cons_succ, i64_w, i32_w]
    rfl
  refine take_ (i := 7) (N := some 13) (v := ?_) (a' := ?_) #[true, true, false, true, true, false, true, true, false, false, false, false, false, false, false] rfl rfl (take_ofW HT_.out HW_.out (by kernel_rfl)) (fun _ _ _ h => h) (Or.inl ⟨by rfl, ?_⟩) hHeld ?_ ?_
  rotate_left
  · rintro w' ⟨s0, s1, s2⟩
    go_simp
    with_reducible rfl
  rotate_left
  · simp only [Act.put, List.setIfInBounds_toArray, List.set_cons_zero, List.set_cons_succ, i64_w, i32_w]
    rfl
  refine one_ (i := 2) (N := some 8) #[true, true, true, true, true, false, true, true, false, false, false, false, false, false, false] rfl rfl (one_of HT_.out (by kernel_rfl)) (by decide) (fun K hK => ?_)
  refine goes_ Tryd.func38 (by kernel_rfl) rfl #[.slice A2 P.f2.length c2] (by rfl) rfl rfl (by first | rfl | (simp only [List.map_toArray, List.map_cons, List.map_nil]; rfl)) ?_
  refine (clone_string.calls A2 c2 P.f2 P.f2 _ (Kd.C_below G2.out HB.out) l2 q2.out).mono ?_
  rintro e wa2 ⟨vk, rfl, hR, hb⟩
  refine ⟨_, rfl, ?_⟩
  obtain ⟨E2, e2, hv⟩ := Kd.R_slice hR
  subst hv
  obtain ⟨lo2, hi2, hlo, hhi, hR1⟩ := R_iv hR
  have le2 : lo2 ≤ hi2 := by rw [hlo, hhi]; exact Below.size hb
  have hR2 := Aside0.mk (Kd.R_lower hR1 (by rw [hlo]; exact HB.out.size))
  have n_BP := Aside0.mk (blk_below BP.out hb)
  have n_BQ := Aside0.mk (blk_below BQ.out hb)
  have n_HB := Aside0.mk (HB.out.trans (Below.mono hb HB.out.size))
  clear BP BQ HB
  have BP := n_BP
  have BQ := n_BQ
  have HB := n_HB
  clear n_BP n_BQ n_HB
  have HH : Aside0 (hi2 ≤ wa2.heap.size) := ⟨Nat.le_of_eq hhi⟩
  have R2 := hR2
  clear hR2 hR hR1 hlo hhi hb
  refine hK.out _ _ ⟨(blk_cell BP.out 2).trans rfl, (blk_cell BP.out 3).trans rfl, (blk_cell BP.out 4).trans rfl⟩ (fun hHeld => ?_)
  clear hK K
  refine norm_ (a' := ?_) ?_ ?_
  rotate_left
  · show Act.put _ (some 8) _ = _
    simp only [Act.put, List.setIfInBounds_toArray, List.set_cons_zero, List.set_cons_succ, i64_w, i32_w]
    rfl
  refine pure_ (i := 9) (N := some 15) (v := ?_) (a' := ?_) #[true, true, true, true, true, false, true, true, false, true, false, false, false, false, false] rfl rfl (any_of HT_.out (by kernel_rfl)) (fun _ _ _ h => h) (Or.inl ⟨by rfl, ?_⟩) ?_ ?_
  rotate_left
  · intro w'
    go_simp
    with_reducible rfl
  rotate_left
  · simp only [Act.put, List.setIfInBounds_toArray, List.set_cons_zero, List.set_cons_succ, i64_w, i32_w]
    rfl
  refine one_ (i := 5) (N := some 11) #[true, true, true, true, true, true, true, true, false, true, false, false, false, false, false] rfl rfl (one_of HT_.out (by kernel_rfl)) (by decide) (fun K hK => ?_)
  refine goes_ Tryd.func38 (by kernel_rfl) rfl #[.slice A3 P.f3.length c3] (by rfl) rfl rfl (by first | rfl | (simp only [List.map_toArray, List.map_cons, List.map_nil]; rfl)) ?_
  refine (clone_string.calls A3 c3 P.f3 P.f3 _ (Kd.C_below G3.out HB.out) l3 q3.out).mono ?_
  rintro e wa3 ⟨vk, rfl, hR, hb⟩
  refine ⟨_, rfl, ?_⟩
  obtain ⟨E3, e3, hv⟩ := Kd.R_slice hR
  subst hv
  obtain ⟨lo3, hi3, hlo, hhi, hR1⟩ := R_iv hR
  have le3 : lo3 ≤ hi3 := by rw [hlo, hhi]; exact Below.size hb
  have ord3 : hi2 ≤ lo3 := by rw [hlo]; exact HH.out
  have hR2 := Aside0.mk (Kd.R_lower hR1 (by rw [hlo]; exact HB.out.size))
  have n_BP := Aside0.mk (blk_below BP.out hb)
  have n_BQ := Aside0.mk (blk_below BQ.out hb)
  have n_HB := Aside0.mk (HB.out.trans (Below.mono hb HB.out.size))
  have n_HH := Aside0.mk (Nat.le_trans (by exact HH.out) (Below.size hb))
  have n_R2 := Aside0.mk (Kd.R_below R2.out hb)
  clear BP BQ HB HH R2
  have BP := n_BP
  have BQ := n_BQ
  have HB := n_HB
  have HH := n_HH
  have R2 := n_R2
  clear n_BP n_BQ n_HB n_HH n_R2
  clear HH
  have HH : Aside0 (hi3 ≤ wa3.heap.size) := ⟨Nat.le_of_eq hhi⟩
  have R3 := hR2
  clear hR2 hR hR1 hlo hhi hb
  refine hK.out _ _ ⟨(blk_cell BP.out 2).trans rfl, (blk_cell BP.out 3).trans rfl, (blk_cell BP.out 4).trans rfl⟩ (fun hHeld => ?_)
  clear hK K
  refine norm_ (a' := ?_) ?_ ?_
  rotate_left
  · show Act.put _ (some 11) _ = _
    simp only [Act.put, List.setIfInBounds_toArray, List.set_cons_zero, List.set_cons_succ, i64_w, i32_w]
    rfl
  refine one_ (i := 8) (N := some 14) #[true, true, true, true, true, true, true, true, true, true, false, false, false, false, false] rfl rfl (one_of HT_.out (by kernel_rfl)) (by decide) (fun K hK => ?_)
  refine goes_ Tryd.func38 (by kernel_rfl) rfl #[.slice A4 P.f4.length c4] (by rfl) rfl rfl (by first | rfl | (simp only [List.map_toArray, List.map_cons, List.map_nil]; rfl)) ?_
  refine (clone_string.calls A4 c4 P.f4 P.f4 _ (Kd.C_below G4.out HB.out) l4 q4.out).mono ?_
  rintro e wa4 ⟨vk, rfl, hR, hb⟩
  refine ⟨_, rfl, ?_⟩
  obtain ⟨E4, e4, hv⟩ := Kd.R_slice hR
  subst hv
  obtain ⟨lo4, hi4, hlo, hhi, hR1⟩ := R_iv hR
  have le4 : lo4 ≤ hi4 := by rw [hlo, hhi]; exact Below.size hb
  have ord4 : hi3 ≤ lo4 := by rw [hlo]; exact HH.out
  have hR2 := Aside0.mk (Kd.R_lower hR1 (by rw [hlo]; exact HB.out.size))
  have n_BP := Aside0.mk (blk_below BP.out hb)
  have n_BQ := Aside0.mk (blk_below BQ.out hb)
  have n_HB := Aside0.mk (HB.out.trans (Below.mono hb HB.out.size))
  have n_HH := Aside0.mk (Nat.le_trans (by exact HH.out) (Below.size hb))
  have n_R2 := Aside0.mk (Kd.R_below R2.out hb)
  have n_R3 := Aside0.mk (Kd.R_below R3.out hb)
  clear BP BQ HB HH R2 R3
  have BP := n_BP
  have BQ := n_BQ
  have HB := n_HB
  have HH := n_HH
  have R2 := n_R2
  have R3 := n_R3
  clear n_BP n_BQ n_HB n_HH n_R2 n_R3
  clear HH
  have HH : Aside0 (hi4 ≤ wa4.heap.size) := ⟨Nat.le_of_eq hhi⟩
  have R4 := hR2
  clear hR2 hR hR1 hlo hhi hb
  refine hK.out _ _ ⟨(blk_cell BP.out 2).trans rfl, (blk_cell BP.out 3).trans rfl, (blk_cell BP.out 4).trans rfl⟩ (fun hHeld => ?_)
  clear hK K
  refine norm_ (a' := ?_) ?_ ?_
  rotate_left
  · show Act.put _ (some 14) _ = _
    simp only [Act.put, List.setIfInBounds_toArray, List.set_cons_zero, List.set_cons_succ, i64_w, i32_w]
    rfl
  refine last_ (i := 10) (N := none) #[true, true, true, true, true, true, true, true, true, true, true, false, false, false, false] rfl rfl (one_of HT_.out (by kernel_rfl)) (by decide) (fun K hK => ?_)
  have sc := blk_cell BP.out 2
  have sf := blk_frozen BP.out 2
  replace sc : wa4.cell? ⟨g, 2, none⟩ = some (.slice A2 P.f2.length c2) := sc.trans rfl
  refine skip_ (w1 := ?_) (by rfl) rfl ?_ ?_
  rotate_left
  · go_simp
    rfl
  clear sc sf
  refine hK.out _ _ ?_
  clear hK K
  refine pure_ (i := 11) (N := some 16) (v := ?_) (a' := ?_) #[true, true, true, true, true, true, true, true, true, true, true, true, false, false, false] rfl rfl (any_of HT_.out (by kernel_rfl)) (fun _ _ _ h => h) (Or.inl ⟨by rfl, ?_⟩) ?_ ?_
  rotate_left
  · intro w'
    go_simp
    with_reducible rfl
  rotate_left
  · simp only [Act.put, List.setIfInBounds_toArray, List.set_cons_zero, List.set_cons_succ, i64_w, i32_w]
    rfl
  refine last_ (i := 12) (N := none) #[true, true, true, true, true, true, true, true, true, true, true, true, true, false, false] rfl rfl (one_of HT_.out (by kernel_rfl)) (by decide) (fun K hK => ?_)
  obtain ⟨wb2, hwb⟩ : ∃ wb, wb = wa4.setCell ⟨g, 2, none⟩ (.slice E2 P.f2.length e2) := ⟨_, rfl⟩
  rw [← hwb]
  have n_BP : Aside0 (wb2.heap[g]? = some (.cells #[.string P.f0, .int .i64 P.f1, .slice E2 P.f2.length e2, .slice A3 P.f3.length c3, .slice A4 P.f4.length c4, .int .i64 P.f5, .slice A6 P.f6.length c6, .slice A7 P.f7.length c7, .slice A8 P.f8.length c8, .slice A9 P.f9.length c9] 27 (0, 0))) := ⟨by rw [hwb]; exact blk_put BP.out 2 _ rfl⟩
  have n_BQ : Aside0 (wb2.heap[g2]? = some (.cells #[.string (⟨#[]⟩ : ByteArray), .int .i64 0, .slice none 0 0, .slice none 0 0, .slice none 0 0, .int .i64 0, .slice none 0 0, .slice none 0 0, .slice none 0 0, .slice none 0 0] 27 (0, 0))) := ⟨by rw [hwb]; exact (Below.heap_setCell _ _ _ _ hg2).trans BQ.out⟩
  have n_HB : Aside0 (Below w.heap.size w wb2) := ⟨by rw [hwb]; exact HB.out.setCell hg1 _⟩
  have n_R2 : Aside0 (Kd.R Kd.string 9 wb2 w.heap.size (fun x => lo2 ≤ x ∧ x < hi2) (.slice E2 P.f2.length e2) P.f2) := ⟨by rw [hwb]; exact Kd.R_set R2.out BP.out (by decide) 2 _⟩
  have n_R3 : Aside0 (Kd.R Kd.string 9 wb2 w.heap.size (fun x => lo3 ≤ x ∧ x < hi3) (.slice E3 P.f3.length e3) P.f3) := ⟨by rw [hwb]; exact Kd.R_set R3.out BP.out (by decide) 2 _⟩
  have n_R4 : Aside0 (Kd.R Kd.string 9 wb2 w.heap.size (fun x => lo4 ≤ x ∧ x < hi4) (.slice E4 P.f4.length e4) P.f4) := ⟨by rw [hwb]; exact Kd.R_set R4.out BP.out (by decide) 2 _⟩
  have n_HH : Aside0 (hi4 ≤ wb2.heap.size) := ⟨by rw [hwb]; simpa using HH.out⟩
  clear BP BQ HB HH R2 R3 R4 hwb
  have BP := n_BP
  have BQ := n_BQ
  have HB := n_HB
  have HH := n_HH
  have R2 := n_R2
  have R3 := n_R3
  have R4 := n_R4
  clear n_BP n_BQ n_HB n_HH n_R2 n_R3 n_R4
  have sc := blk_cell BP.out 3
  have sf := blk_frozen BP.out 3
  replace sc : wb2.cell? ⟨g, 3, none⟩ = some (.slice A3 P.f3.length c3) := sc.trans rfl
  refine skip_ (w1 := ?_) (by rfl) rfl ?_ ?_
  rotate_left
  · go_simp
    rfl
  clear sc sf
  refine hK.out _ _ ?_
  clear hK K
  refine pure_ (i := 13) (N := some 17) (v := ?_) (a' := ?_) #[true, true, true, true, true, true, true, true, true, true, true, true, true, true, false] rfl rfl (any_of HT_.out (by kernel_rfl)) (fun _ _ _ h => h) (Or.inl ⟨by rfl, ?_⟩) ?_ ?_
  rotate_left
  · intro w'
    go_simp
    with_reducible rfl
  rotate_left
  · simp only [Act.put, List.setIfInBounds_toArray, List.set_cons_zero, List.set_cons_succ, i64_w, i32_w]
    rfl
  refine last_ (i := 14) (N := none) #[true, true, true, true, true, true, true, true, true, true, true, true, true, true, true] rfl rfl (one_of HT_.out (by kernel_rfl)) (by decide) (fun K hK => ?_)
  obtain ⟨wb3, hwb⟩ : ∃ wb, wb = wb2.setCell ⟨g, 3, none⟩ (.slice E3 P.f3.length e3) := ⟨_, rfl⟩
  rw [← hwb]
  have n_BP : Aside0 (wb3.heap[g]? = some (.cells #[.string P.f0, .int .i64 P.f1, .slice E2 P.f2.length e2, .slice E3 P.f3.length e3, .slice A4 P.f4.length c4, .int .i64 P.f5, .slice A6 P.f6.length c6, .slice A7 P.f7.length c7, .slice A8 P.f8.length c8, .slice A9 P.f9.length c9] 27 (0, 0))) := ⟨by rw [hwb]; exact blk_put BP.out 3 _ rfl⟩
  have n_BQ : Aside0 (wb3.heap[g2]? = some (.cells #[.string (⟨#[]⟩ : ByteArray), .int .i64 0, .slice none 0 0, .slice none 0 0, .slice none 0 0, .int .i64 0, .slice none 0 0, .slice none 0 0, .slice none 0 0, .slice none 0 0] 27 (0, 0))) := ⟨by rw [hwb]; exact (Below.heap_setCell _ _ _ _ hg2).trans BQ.out⟩
  have n_HB : Aside0 (Below w.heap.size w wb3) := ⟨by rw [hwb]; exact HB.out.setCell hg1 _⟩
  have n_R2 : Aside0 (Kd.R Kd.string 9 wb3 w.heap.size (fun x => lo2 ≤ x ∧ x < hi2) (.slice E2 P.f2.length e2) P.f2) := ⟨by rw [hwb]; exact Kd.R_set R2.out BP.out (by decide) 3 _⟩
  have n_R3 : Aside0 (Kd.R Kd.string 9 wb3 w.heap.size (fun x => lo3 ≤ x ∧ x < hi3) (.slice E3 P.f3.length e3) P.f3) := ⟨by rw [hwb]; exact Kd.R_set R3.out BP.out (by decide) 3 _⟩
  have n_R4 : Aside0 (Kd.R Kd.string 9 wb3 w.heap.size (fun x => lo4 ≤ x ∧ x < hi4) (.slice E4 P.f4.length e4) P.f4) := ⟨by rw [hwb]; exact Kd.R_set R4.out BP.out (by decide) 3 _⟩
  have n_HH : Aside0 (hi4 ≤ wb3.heap.size) := ⟨by rw [hwb]; simpa using HH.out⟩
  clear BP BQ HB HH R2 R3 R4 hwb
  have BP := n_BP
  have BQ := n_BQ
  have HB := n_HB
  have HH := n_HH
  have R2 := n_R2
  have R3 := n_R3
  have R4 := n_R4
  clear n_BP n_BQ n_HB n_HH n_R2 n_R3 n_R4
  have sc := blk_cell BP.out 4
  have sf := blk_frozen BP.out 4
  replace sc : wb3.cell? ⟨g, 4, none⟩ = some (.slice A4 P.f4.length c4) := sc.trans rfl
  refine skip_ (w1 := ?_) (by rfl) rfl ?_ ?_
  rotate_left
  · go_simp
    rfl
  clear sc sf
  refine hK.out _ _ ?_
  clear hK K
  refine done_ (done_of HT_.out (by kernel_rfl)) ?_
  obtain ⟨wb4, hwb⟩ : ∃ wb, wb = wb3.setCell ⟨g, 4, none⟩ (.slice E4 P.f4.length e4) := ⟨_, rfl⟩
  rw [← hwb]
  have n_BP : Aside0 (wb4.heap[g]? = some (.cells #[.string P.f0, .int .i64 P.f1, .slice E2 P.f2.length e2, .slice E3 P.f3.length e3, .slice E4 P.f4.length e4, .int .i64 P.f5, .slice A6 P.f6.length c6, .slice A7 P.f7.length c7, .slice A8 P.f8.length c8, .slice A9 P.f9.length c9] 27 (0, 0))) := ⟨by rw [hwb]; exact blk_put BP.out 4 _ rfl⟩
  have n_BQ : Aside0 (wb4.heap[g2]? = some (.cells #[.string (⟨#[]⟩ : ByteArray), .int .i64 0, .slice none 0 0, .slice none 0 0, .slice none 0 0, .int .i64 0, .slice none 0 0, .slice none 0 0, .slice none 0 0, .slice none 0 0] 27 (0, 0))) := ⟨by rw [hwb]; exact (Below.heap_setCell _ _ _ _ hg2).trans BQ.out⟩
  have n_HB : Aside0 (Below w.heap.size w wb4) := ⟨by rw [hwb]; exact HB.out.setCell hg1 _⟩
  have n_R2 : Aside0 (Kd.R Kd.string 9 wb4 w.heap.size (fun x => lo2 ≤ x ∧ x < hi2) (.slice E2 P.f2.length e2) P.f2) := ⟨by rw [hwb]; exact Kd.R_set R2.out BP.out (by decide) 4 _⟩
  have n_R3 : Aside0 (Kd.R Kd.string 9 wb4 w.heap.size (fun x => lo3 ≤ x ∧ x < hi3) (.slice E3 P.f3.length e3) P.f3) := ⟨by rw [hwb]; exact Kd.R_set R3.out BP.out (by decide) 4 _⟩
  have n_R4 : Aside0 (Kd.R Kd.string 9 wb4 w.heap.size (fun x => lo4 ≤ x ∧ x < hi4) (.slice E4 P.f4.length e4) P.f4) := ⟨by rw [hwb]; exact Kd.R_set R4.out BP.out (by decide) 4 _⟩
  have n_HH : Aside0 (hi4 ≤ wb4.heap.size) := ⟨by rw [hwb]; simpa using HH.out⟩
  clear BP BQ HB HH R2 R3 R4 hwb
  have BP := n_BP
  have BQ := n_BQ
  have HB := n_HB
  have HH := n_HH
  have R2 := n_R2
  have R3 := n_R3
  have R4 := n_R4
  clear n_BP n_BQ n_HB n_HH n_R2 n_R3 n_R4
  go_upto_region 2 with (fail)
  have n_BP := Aside0.mk (blk_drew BP.out)
  have n_BQ := Aside0.mk (blk_drew BQ.out)
  have n_HB := Aside0.mk (below_drew1 HB.out)
  have n_HH := Aside0.mk (HH.out)
  have n_R2 := Aside0.mk (Kd.R_drew R2.out)
  have n_R3 := Aside0.mk (Kd.R_drew R3.out)
  have n_R4 := Aside0.mk (Kd.R_drew R4.out)
  clear BP BQ HB HH R2 R3 R4
  have BP := n_BP
  have BQ := n_BQ
  have HB := n_HB
  have HH := n_HH
  have R2 := n_R2
  have R3 := n_R3
  have R4 := n_R4
  clear n_BP n_BQ n_HB n_HH n_R2 n_R3 n_R4
  refine start_ (n := 15) (S := fun w' => w'.cell? ⟨g, 6, none⟩ = some (.slice A6 P.f6.length c6) ∧ w'.cell? ⟨g, 7, none⟩ = some (.slice A7 P.f7.length c7) ∧ w'.cell? ⟨g, 8, none⟩ = some (.slice A8 P.f8.length c8)) (ds := [10, 12, 14]) #[false, false, false, false, false, false, false, false, false, false, false, false, false, false, false] (by kernel_rfl) rfl rfl ⟨(blk_cell BP.out 6).trans rfl, (blk_cell BP.out 7).trans rfl, (blk_cell BP.out 8).trans rfl⟩ (fun hHeld => ?_)
  refine with_tabW copyOf.tab2 copyOf.bits2 (fun HT_ HW_ => ?_)
  refine pure_ (i := 0) (N := some 18) (v := ?_) (a' := ?_) #[true, false, false, false, false, false, false, false, false, false, false, false, false, false, false] rfl rfl (any_of HT_.out (by kernel_rfl)) (fun _ _ _ h => h) (Or.inl ⟨by rfl, ?_⟩) ?_ ?_
  rotate_left
  · intro w'
    go_simp
    with_reducible rfl
  rotate_left
  · simp only [Act.put, List.setIfInBounds_toArray, List.set_cons_zero, List.set_cons_succ, i64_w, i32_w]
    rfl
  refine pure_ (i := 3) (N := some 21) (v := ?_) (a' := ?_) #[true, false, false, true, false, false, false, false, false, false, false, false, false, false, false] rfl rfl (any_of HT_.out (by kernel_rfl)) (fun _ _ _ h => h) (Or.inl ⟨by rfl, ?_⟩) ?_ ?_
  rotate_left
  · intro w'
    go_simp
    with_reducible rfl
  rotate_left
  · simp only [Act.put, List.setIfInBounds_toArray, List.set_cons_zero, List.set_cons_succ, i64_w, i32_w]
    rfl
  refine pure_ (i := 6) (N := some 24) (v := ?_) (a' := ?_) #[true, false, false, true, false, false, true, false, false, false, false, false, false, false, false] rfl rfl (any_of HT_.out (by kernel_rfl)) (fun _ _ _ h => h) (Or.inl ⟨by rfl, ?_⟩) ?_ ?_
  rotate_left
  · intro w'
    go_simp
    with_reducible rfl
  rotate_left
  · simp only [Act.put, List.setIfInBounds_toArray, List.set_cons_zero, List.set_cons_succ, i64_w, i32_w]
    rfl
  refine take_ (i := 1) (N := some 19) (v := ?_) (a' := ?_) #[true, true, false, true, false, false, true, false, false, false, false, false, false, false, false] rfl rfl (take_ofW HT_.out HW_.out (by kernel_rfl)) (fun _ _ _ h => h) (Or.inl ⟨by rfl, ?_⟩) hHeld ?_ ?_
  rotate_left
  · rintro w' ⟨s0, s1, s2⟩
    go_simp
    with_reducible rfl
  rotate_left
  · simp only [Act.put, List.setIfInBounds_toArray, List.set_cons_zero, List.set_cons_succ, i64_w, i32_w]
    rfl
  refine take_ (i := 4) (N := some 22) (v := ?_) (a' := ?_) #[true, true, false, true, true, false, true, false, false, false, false, false, false, false, false] rfl rfl (take_ofW HT_.out HW_.out (by kernel_rfl)) (fun _ _ _ h => h) (Or.inl ⟨by rfl, ?_⟩) hHeld ?_ ?_
  rotate_left
  · rintro w' ⟨s0, s1, s2⟩
    go_simp
    with_reducible rfl
  rotate_left
  · simp only [Act.put, List.setIfInBounds_toArray, List.set_cons_zero, List.set_cons_succ, i64_w, i32_w]
    rfl
  refine take_ (i := 7) (N := some 25) (v := ?_) (a' := ?_) #[true, true, false, true, true, false, true, true, false, false, false, false, false, false, false] rfl rfl (take_ofW HT_.out HW_.out (by kernel_rfl)) (fun _ _ _ h => h) (Or.inl ⟨by rfl, ?_⟩) hHeld ?_ ?_
  rotate_left
  · rintro w' ⟨s0, s1, s2⟩
    go_simp
    with_reducible rfl
  rotate_left
  · simp only [Act.put, List.setIfInBounds_toArray, List.set_cons_zero, List.set_cons_succ, i64_w, i32_w]
    rfl
  refine one_ (i := 2) (N := some 20) #[true, true, true, true, true, false, true, true, false, false, false, false, false, false, false] rfl rfl (one_of HT_.out (by kernel_rfl)) (by decide) (fun K hK => ?_)
  refine goes_ Tryd.func39 (by kernel_rfl) rfl #[.slice A6 P.f6.length c6] (by rfl) rfl rfl (by first | rfl | (simp only [List.map_toArray, List.map_cons, List.map_nil]; rfl)) ?_
  refine (clone_linear.calls A6 c6 P.f6 P.f6 _ (Kd.C_below G6.out HB.out) l6 q6.out).mono ?_
  rintro e wa6 ⟨vk, rfl, hR, hb⟩
  refine ⟨_, rfl, ?_⟩
  obtain ⟨E6, e6, hv⟩ := Kd.R_slice hR
  subst hv
  obtain ⟨lo6, hi6, hlo, hhi, hR1⟩ := R_iv hR
  have le6 : lo6 ≤ hi6 := by rw [hlo, hhi]; exact Below.size hb
  have ord6 : hi4 ≤ lo6 := by rw [hlo]; exact HH.out
  have hR2 := Aside0.mk (Kd.R_lower hR1 (by rw [hlo]; exact HB.out.size))
  have n_BP := Aside0.mk (blk_below BP.out hb)
  have n_BQ := Aside0.mk (blk_below BQ.out hb)
  have n_HB := Aside0.mk (HB.out.trans (Below.mono hb HB.out.size))
  have n_HH := Aside0.mk (Nat.le_trans (by exact HH.out) (Below.size hb))
  have n_R2 := Aside0.mk (Kd.R_below R2.out hb)
  have n_R3 := Aside0.mk (Kd.R_below R3.out hb)
  have n_R4 := Aside0.mk (Kd.R_below R4.out hb)
  clear BP BQ HB HH R2 R3 R4
  have BP := n_BP
  have BQ := n_BQ
  have HB := n_HB
  have HH := n_HH
  have R2 := n_R2
  have R3 := n_R3
  have R4 := n_R4
  clear n_BP n_BQ n_HB n_HH n_R2 n_R3 n_R4
  clear HH
  have HH : Aside0 (hi6 ≤ wa6.heap.size) := ⟨Nat.le_of_eq hhi⟩
  have R6 := hR2
  clear hR2 hR hR1 hlo hhi hb
  refine hK.out _ _ ⟨(blk_cell BP.out 6).trans rfl, (blk_cell BP.out 7).trans rfl, (blk_cell BP.out 8).trans rfl⟩ (fun hHeld => ?_)
  clear hK K
  refine norm_ (a' := ?_) ?_ ?_
  rotate_left
  · show Act.put _ (some 20) _ = _
    simp only [Act.put, List.setIfInBounds_toArray, List.set_cons_zero, List.set_cons_succ, i64_w, i32_w]
    rfl
  refine pure_ (i := 9) (N := some 27) (v := ?_) (a' := ?_) #[true, true, true, true, true, false, true, true, false, true, false, false, false, false, false] rfl rfl (any_of HT_.out (by kernel_rfl)) (fun _ _ _ h => h) (Or.inl ⟨by rfl, ?_⟩) ?_ ?_
  rotate_left
  · intro w'
    go_simp
    with_reducible rfl
  rotate_left
  · simp only [Act.put, List.setIfInBounds_toArray, List.set_cons_zero, List.set_cons_succ, i64_w, i32_w]
    rfl
  refine one_ (i := 5) (N := some 23) #[true, true, true, true, true, true, true, true, false, true, false, false, false, false, false] rfl rfl (one_of HT_.out (by kernel_rfl)) (by decide) (fun K hK => ?_)
  refine goes_ Tryd.func40 (by kernel_rfl) rfl #[.slice A7 P.f7.length c7] (by rfl) rfl rfl (by first | rfl | (simp only [List.map_toArray, List.map_cons, List.map_nil]; rfl)) ?_
  refine (clone_int.calls A7 c7 P.f7 P.f7 _ (Kd.C_below G7.out HB.out) l7 q7.out).mono ?_
  rintro e wa7 ⟨vk, rfl, hR, hb⟩
  refine ⟨_, rfl, ?_⟩
  obtain ⟨E7, e7, hv⟩ := Kd.R_slice hR
  subst hv
  obtain ⟨lo7, hi7, hlo, hhi, hR1⟩ := R_iv hR
  have le7 : lo7 ≤ hi7 := by rw [hlo, hhi]; exact Below.size hb
  have ord7 : hi6 ≤ lo7 := by rw [hlo]; exact HH.out
  have hR2 := Aside0.mk (Kd.R_lower hR1 (by rw [hlo]; exact HB.out.size))
  have n_BP := Aside0.mk (blk_below BP.out hb)
  have n_BQ := Aside0.mk (blk_below BQ.out hb)
  have n_HB := Aside0.mk (HB.out.trans (Below.mono hb HB.out.size))
  have n_HH := Aside0.mk (Nat.le_trans (by exact HH.out) (Below.size hb))
  have n_R2 := Aside0.mk (Kd.R_below R2.out hb)
  have n_R3 := Aside0.mk (Kd.R_below R3.out hb)
  have n_R4 := Aside0.mk (Kd.R_below R4.out hb)
  have n_R6 := Aside0.mk (Kd.R_below R6.out hb)
  clear BP BQ HB HH R2 R3 R4 R6
  have BP := n_BP
  have BQ := n_BQ
  have HB := n_HB
  have HH := n_HH
  have R2 := n_R2
  have R3 := n_R3
  have R4 := n_R4
  have R6 := n_R6
  clear n_BP n_BQ n_HB n_HH n_R2 n_R3 n_R4 n_R6
  clear HH
  have HH : Aside0 (hi7 ≤ wa7.heap.size) := ⟨Nat.le_of_eq hhi⟩
  have R7 := hR2
  clear hR2 hR hR1 hlo hhi hb
  refine hK.out _ _ ⟨(blk_cell BP.out 6).trans rfl, (blk_cell BP.out 7).trans rfl, (blk_cell BP.out 8).trans rfl⟩ (fun hHeld => ?_)
  clear hK K
  refine norm_ (a' := ?_) ?_ ?_
  rotate_left
  · show Act.put _ (some 23) _ = _
    simp only [Act.put, List.setIfInBounds_toArray, List.set_cons_zero, List.set_cons_succ, i64_w, i32_w]
    rfl
  refine one_ (i := 8) (N := some 26) #[true, true, true, true, true, true, true, true, true, true, false, false, false, false, false] rfl rfl (one_of HT_.out (by kernel_rfl)) (by decide) (fun K hK => ?_)
  refine goes_ Tryd.func40 (by kernel_rfl) rfl #[.slice A8 P.f8.length c8] (by rfl) rfl rfl (by first | rfl | (simp only [List.map_toArray, List.map_cons, List.map_nil]; rfl)) ?_
  refine (clone_int.calls A8 c8 P.f8 P.f8 _ (Kd.C_below G8.out HB.out) l8 q8.out).mono ?_
  rintro e wa8 ⟨vk, rfl, hR, hb⟩
  refine ⟨_, rfl, ?_⟩
  obtain ⟨E8, e8, hv⟩ := Kd.R_slice hR
  subst hv
  obtain ⟨lo8, hi8, hlo, hhi, hR1⟩ := R_iv hR
  have le8 : lo8 ≤ hi8 := by rw [hlo, hhi]; exact Below.size hb
  have ord8 : hi7 ≤ lo8 := by rw [hlo]; exact HH.out
  have hR2 := Aside0.mk (Kd.R_lower hR1 (by rw [hlo]; exact HB.out.size))
  have n_BP := Aside0.mk (blk_below BP.out hb)
  have n_BQ := Aside0.mk (blk_below BQ.out hb)
  have n_HB := Aside0.mk (HB.out.trans (Below.mono hb HB.out.size))
  have n_HH := Aside0.mk (Nat.le_trans (by exact HH.out) (Below.size hb))
  have n_R2 := Aside0.mk (Kd.R_below R2.out hb)
  have n_R3 := Aside0.mk (Kd.R_below R3.out hb)
  have n_R4 := Aside0.mk (Kd.R_below R4.out hb)
  have n_R6 := Aside0.mk (Kd.R_below R6.out hb)
  have n_R7 := Aside0.mk (Kd.R_below R7.out hb)
  clear BP BQ HB HH R2 R3 R4 R6 R7
  have BP := n_BP
  have BQ := n_BQ
  have HB := n_HB
  have HH := n_HH
  have R2 := n_R2
  have R3 := n_R3
  have R4 := n_R4
  have R6 := n_R6
  have R7 := n_R7
  clear n_BP n_BQ n_HB n_HH n_R2 n_R3 n_R4 n_R6 n_R7
  clear HH
  have HH : Aside0 (hi8 ≤ wa8.heap.size) := ⟨Nat.le_of_eq hhi⟩
  have R8 := hR2
  clear hR2 hR hR1 hlo hhi hb
  refine hK.out _ _ ⟨(blk_cell BP.out 6).trans rfl, (blk_cell BP.out 7).trans rfl, (blk_cell BP.out 8).trans rfl⟩ (fun hHeld => ?_)
  clear hK K
  refine norm_ (a' := ?_) ?_ ?_
  rotate_left
  · show Act.put _ (some 26) _ = _
    simp only [Act.put, List.setIfInBounds_toArray, List.set_cons_zero, List.set_cons_succ, i64_w, i32_w]
    rfl
  refine last_ (i := 10) (N := none) #[true, true, true, true, true, true, true, true, true, true, true, false, false, false, false] rfl rfl (one_of HT_.out (by kernel_rfl)) (by decide) (fun K hK => ?_)
  have sc := blk_cell BP.out 6
  have sf := blk_frozen BP.out 6
  replace sc : wa8.cell? ⟨g, 6, none⟩ = some (.slice A6 P.f6.length c6) := sc.trans rfl
  refine skip_ (w1 := ?_) (by rfl) rfl ?_ ?_
  rotate_left
  · go_simp
    rfl
  clear sc sf
  refine hK.out _ _ ?_
  clear hK K
  refine pure_ (i := 11) (N := some 28) (v := ?_) (a' := ?_) #[true, true, true, true, true, true, true, true, true, true, true, true, false, false, false] rfl rfl (any_of HT_.out (by kernel_rfl)) (fun _ _ _ h => h) (Or.inl ⟨by rfl, ?_⟩) ?_ ?_
  rotate_left
  · intro w'
    go_simp
    with_reducible rfl
  rotate_left
  · simp only [Act.put, List.setIfInBounds_toArray, List.set_cons_zero, List.set_cons_succ, i64_w, i32_w]
    rfl
  refine last_ (i := 12) (N := none) #[true, true, true, true, true, true, true, true, true, true, true, true, true, false, false] rfl rfl (one_of HT_.out (by kernel_rfl)) (by decide) (fun K hK => ?_)
  obtain ⟨wb6, hwb⟩ : ∃ wb, wb = wa8.setCell ⟨g, 6, none⟩ (.slice E6 P.f6.length e6) := ⟨_, rfl⟩
  rw [← hwb]
  have n_BP : Aside0 (wb6.heap[g]? = some (.cells #[.string P.f0, .int .i64 P.f1, .slice E2 P.f2.length e2, .slice E3 P.f3.length e3, .slice E4 P.f4.length e4, .int .i64 P.f5, .slice E6 P.f6.length e6, .slice A7 P.f7.length c7, .slice A8 P.f8.length c8, .slice A9 P.f9.length c9] 27 (0, 0))) := ⟨by rw [hwb]; exact blk_put BP.out 6 _ rfl⟩
  have n_BQ : Aside0 (wb6.heap[g2]? = some (.cells #[.string (⟨#[]⟩ : ByteArray), .int .i64 0, .slice none 0 0, .slice none 0 0, .slice none 0 0, .int .i64 0, .slice none 0 0, .slice none 0 0, .slice none 0 0, .slice none 0 0] 27 (0, 0))) := ⟨by rw [hwb]; exact (Below.heap_setCell _ _ _ _ hg2).trans BQ.out⟩
  have n_HB : Aside0 (Below w.heap.size w wb6) := ⟨by rw [hwb]; exact HB.out.setCell hg1 _⟩
  have n_R2 : Aside0 (Kd.R Kd.string 9 wb6 w.heap.size (fun x => lo2 ≤ x ∧ x < hi2) (.slice E2 P.f2.length e2) P.f2) := ⟨by rw [hwb]; exact Kd.R_set R2.out BP.out (by decide) 6 _⟩
  have n_R3 : Aside0 (Kd.R Kd.string 9 wb6 w.heap.size (fun x => lo3 ≤ x ∧ x < hi3) (.slice E3 P.f3.length e3) P.f3) := ⟨by rw [hwb]; exact Kd.R_set R3.out BP.out (by decide) 6 _⟩
  have n_R4 : Aside0 (Kd.R Kd.string 9 wb6 w.heap.size (fun x => lo4 ≤ x ∧ x < hi4) (.slice E4 P.f4.length e4) P.f4) := ⟨by rw [hwb]; exact Kd.R_set R4.out BP.out (by decide) 6 _⟩
  have n_R6 : Aside0 (Kd.R k48 48 wb6 w.heap.size (fun x => lo6 ≤ x ∧ x < hi6) (.slice E6 P.f6.length e6) P.f6) := ⟨by rw [hwb]; exact Kd.R_set R6.out BP.out (by decide) 6 _⟩
  have n_R7 : Aside0 (Kd.R (Kd.int .i64) 3 wb6 w.heap.size (fun x => lo7 ≤ x ∧ x < hi7) (.slice E7 P.f7.length e7) P.f7) := ⟨by rw [hwb]; exact Kd.R_set R7.out BP.out (by decide) 6 _⟩
  have n_R8 : Aside0 (Kd.R (Kd.int .i64) 3 wb6 w.heap.size (fun x => lo8 ≤ x ∧ x < hi8) (.slice E8 P.f8.length e8) P.f8) := ⟨by rw [hwb]; exact Kd.R_set R8.out BP.out (by decide) 6 _⟩
  have n_HH : Aside0 (hi8 ≤ wb6.heap.size) := ⟨by rw [hwb]; simpa using HH.out⟩
  clear BP BQ HB HH R2 R3 R4 R6 R7 R8 hwb
  have BP := n_BP
  have BQ := n_BQ
  have HB := n_HB
  have HH := n_HH
  have R2 := n_R2
  have R3 := n_R3
  have R4 := n_R4
  have R6 := n_R6
  have R7 := n_R7
  have R8 := n_R8
  clear n_BP n_BQ n_HB n_HH n_R2 n_R3 n_R4 n_R6 n_R7 n_R8
  have sc := blk_cell BP.out 7
  have sf := blk_frozen BP.out 7
  replace sc : wb6.cell? ⟨g, 7, none⟩ = some (.slice A7 P.f7.length c7) := sc.trans rfl
  refine skip_ (w1 := ?_) (by rfl) rfl ?_ ?_
  rotate_left
  · go_simp
    rfl
  clear sc sf
  refine hK.out _ _ ?_
  clear hK K
  refine pure_ (i := 13) (N := some 29) (v := ?_) (a' := ?_) #[true, true, true, true, true, true, true, true, true, true, true, true, true, true, false] rfl rfl (any_of HT_.out (by kernel_rfl)) (fun _ _ _ h => h) (Or.inl ⟨by rfl, ?_⟩) ?_ ?_
  rotate_left
  · intro w'
    go_simp
    with_reducible rfl
  rotate_left
  · simp only [Act.put, List.setIfInBounds_toArray, List.set_cons_zero, List.set_cons_succ, i64_w, i32_w]
    rfl
  refine last_ (i := 14) (N := none) #[true, true, true, true, true, true, true, true, true, true, true, true, true, true, true] rfl rfl (one_of HT_.out (by kernel_rfl)) (by decide) (fun K hK => ?_)
  obtain ⟨wb7, hwb⟩ : ∃ wb, wb = wb6.setCell ⟨g, 7, none⟩ (.slice E7 P.f7.length e7) := ⟨_, rfl⟩
  rw [← hwb]
  have n_BP : Aside0 (wb7.heap[g]? = some (.cells #[.string P.f0, .int .i64 P.f1, .slice E2 P.f2.length e2, .slice E3 P.f3.length e3, .slice E4 P.f4.length e4, .int .i64 P.f5, .slice E6 P.f6.length e6, .slice E7 P.f7.length e7, .slice A8 P.f8.length c8, .slice A9 P.f9.length c9] 27 (0, 0))) := ⟨by rw [hwb]; exact blk_put BP.out 7 _ rfl⟩
  have n_BQ : Aside0 (wb7.heap[g2]? = some (.cells #[.string (⟨#[]⟩ : ByteArray), .int .i64 0, .slice none 0 0, .slice none 0 0, .slice none 0 0, .int .i64 0, .slice none 0 0, .slice none 0 0, .slice none 0 0, .slice none 0 0] 27 (0, 0))) := ⟨by rw [hwb]; exact (Below.heap_setCell _ _ _ _ hg2).trans BQ.out⟩
  have n_HB : Aside0 (Below w.heap.size w wb7) := ⟨by rw [hwb]; exact HB.out.setCell hg1 _⟩
  have n_R2 : Aside0 (Kd.R Kd.string 9 wb7 w.heap.size (fun x => lo2 ≤ x ∧ x < hi2) (.slice E2 P.f2.length e2) P.f2) := ⟨by rw [hwb]; exact Kd.R_set R2.out BP.out (by decide) 7 _⟩
  have n_R3 : Aside0 (Kd.R Kd.string 9 wb7 w.heap.size (fun x => lo3 ≤ x ∧ x < hi3) (.slice E3 P.f3.length e3) P.f3) := ⟨by rw [hwb]; exact Kd.R_set R3.out BP.out (by decide) 7 _⟩
  have n_R4 : Aside0 (Kd.R Kd.string 9 wb7 w.heap.size (fun x => lo4 ≤ x ∧ x < hi4) (.slice E4 P.f4.length e4) P.f4) := ⟨by rw [hwb]; exact Kd.R_set R4.out BP.out (by decide) 7 _⟩
  have n_R6 : Aside0 (Kd.R k48 48 wb7 w.heap.size (fun x => lo6 ≤ x ∧ x < hi6) (.slice E6 P.f6.length e6) P.f6) := ⟨by rw [hwb]; exact Kd.R_set R6.out BP.out (by decide) 7 _⟩
  have n_R7 : Aside0 (Kd.R (Kd.int .i64) 3 wb7 w.heap.size (fun x => lo7 ≤ x ∧ x < hi7) (.slice E7 P.f7.length e7) P.f7) := ⟨by rw [hwb]; exact Kd.R_set R7.out BP.out (by decide) 7 _⟩
  have n_R8 : Aside0 (Kd.R (Kd.int .i64) 3 wb7 w.heap.size (fun x => lo8 ≤ x ∧ x < hi8) (.slice E8 P.f8.length e8) P.f8) := ⟨by rw [hwb]; exact Kd.R_set R8.out BP.out (by decide) 7 _⟩
  have n_HH : Aside0 (hi8 ≤ wb7.heap.size) := ⟨by rw [hwb]; simpa using HH.out⟩
  clear BP BQ HB HH R2 R3 R4 R6 R7 R8 hwb
  have BP := n_BP
  have BQ := n_BQ
  have HB := n_HB
  have HH := n_HH
  have R2 := n_R2
  have R3 := n_R3
  have R4 := n_R4
  have R6 := n_R6
  have R7 := n_R7
  have R8 := n_R8
  clear n_BP n_BQ n_HB n_HH n_R2 n_R3 n_R4 n_R6 n_R7 n_R8
  have sc := blk_cell BP.out 8
  have sf := blk_frozen BP.out 8
  replace sc : wb7.cell? ⟨g, 8, none⟩ = some (.slice A8 P.f8.length c8) := sc.trans rfl
  refine skip_ (w1 := ?_) (by rfl) rfl ?_ ?_
  rotate_left
  · go_simp
    rfl
  clear sc sf
  refine hK.out _ _ ?_
  clear hK K
  refine done_ (done_of HT_.out (by kernel_rfl)) ?_
  obtain ⟨wb8, hwb⟩ : ∃ wb, wb = wb7.setCell ⟨g, 8, none⟩ (.slice E8 P.f8.length e8) := ⟨_, rfl⟩
  rw [← hwb]
  have n_BP : Aside0 (wb8.heap[g]? = some (.cells #[.string P.f0, .int .i64 P.f1, .slice E2 P.f2.length e2, .slice E3 P.f3.length e3, .slice E4 P.f4.length e4, .int .i64 P.f5, .slice E6 P.f6.length e6, .slice E7 P.f7.length e7, .slice E8 P.f8.length e8, .slice A9 P.f9.length c9] 27 (0, 0))) := ⟨by rw [hwb]; exact blk_put BP.out 8 _ rfl⟩
  have n_BQ : Aside0 (wb8.heap[g2]? = some (.cells #[.string (⟨#[]⟩ : ByteArray), .int .i64 0, .slice none 0 0, .slice none 0 0, .slice none 0 0, .int .i64 0, .slice none 0 0, .slice none 0 0, .slice none 0 0, .slice none 0 0] 27 (0, 0))) := ⟨by rw [hwb]; exact (Below.heap_setCell _ _ _ _ hg2).trans BQ.out⟩
  have n_HB : Aside0 (Below w.heap.size w wb8) := ⟨by rw [hwb]; exact HB.out.setCell hg1 _⟩
  have n_R2 : Aside0 (Kd.R Kd.string 9 wb8 w.heap.size (fun x => lo2 ≤ x ∧ x < hi2) (.slice E2 P.f2.length e2) P.f2) := ⟨by rw [hwb]; exact Kd.R_set R2.out BP.out (by decide) 8 _⟩
  have n_R3 : Aside0 (Kd.R Kd.string 9 wb8 w.heap.size (fun x => lo3 ≤ x ∧ x < hi3) (.slice E3 P.f3.length e3) P.f3) := ⟨by rw [hwb]; exact Kd.R_set R3.out BP.out (by decide) 8 _⟩
  have n_R4 : Aside0 (Kd.R Kd.string 9 wb8 w.heap.size (fun x => lo4 ≤ x ∧ x < hi4) (.slice E4 P.f4.length e4) P.f4) := ⟨by rw [hwb]; exact Kd.R_set R4.out BP.out (by decide) 8 _⟩
  have n_R6 : Aside0 (Kd.R k48 48 wb8 w.heap.size (fun x => lo6 ≤ x ∧ x < hi6) (.slice E6 P.f6.length e6) P.f6) := ⟨by rw [hwb]; exact Kd.R_set R6.out BP.out (by decide) 8 _⟩
  have n_R7 : Aside0 (Kd.R (Kd.int .i64) 3 wb8 w.heap.size (fun x => lo7 ≤ x ∧ x < hi7) (.slice E7 P.f7.length e7) P.f7) := ⟨by rw [hwb]; exact Kd.R_set R7.out BP.out (by decide) 8 _⟩
  have n_R8 : Aside0 (Kd.R (Kd.int .i64) 3 wb8 w.heap.size (fun x => lo8 ≤ x ∧ x < hi8) (.slice E8 P.f8.length e8) P.f8) := ⟨by rw [hwb]; exact Kd.R_set R8.out BP.out (by decide) 8 _⟩
  have n_HH : Aside0 (hi8 ≤ wb8.heap.size) := ⟨by rw [hwb]; simpa using HH.out⟩
  clear BP BQ HB HH R2 R3 R4 R6 R7 R8 hwb
  have BP := n_BP
  have BQ := n_BQ
  have HB := n_HB
  have HH := n_HH
  have R2 := n_R2
  have R3 := n_R3
  have R4 := n_R4
  have R6 := n_R6
  have R7 := n_R7
  have R8 := n_R8
  clear n_BP n_BQ n_HB n_HH n_R2 n_R3 n_R4 n_R6 n_R7 n_R8
  have p9 : wb8.cell? ⟨g, 9, none⟩ = some (.slice A9 P.f9.length c9) := (blk_cell BP.out 9).trans rfl
  go_upto_region 3 with (fail)
  go_wp2_with ((with_reducible refine gate_dst (N := 33) rfl ?_); refine make0_event k30 30 rfl rfl 25 (.const (.int .i64 0)) (.tmp 32) rfl P.f9.length (by go_simp) (by go_simp) Tryd.underlying25 _ 280 info30 rfl (by omega) (by omega) ?_; intro v0 w2 hR hB2; have HR0 := Aside0.mk hR; have HB2 := Aside0.mk hB2; have p9b : w2.cell? ⟨g, 9, none⟩ = some (.slice A9 P.f9.length c9) := (hB2.cell (World.block_lt_of_cell? _ _ p9)).trans p9; clear hR hB2 p9)
  clear p9b
  have HBw := Aside0.mk (HB.out.trans (HB2.out.mono HB.out.size))
  go_loopw [3, 37] (fun v3 v37 W => ∃ i : Nat, i ≤ P.f9.length ∧ v37 = .int .i64 i ∧ Aside0 (k30.R 30 W wb8.heap.size (fun _ => True) v3 (P.f9.take i)) ∧ Aside0 (Below wb8.heap.size wb8 W)) (fun _ v37 _ => P.f9.length - (intOf v37).toNat)
  case atStart => exact ⟨0, Nat.zero_le _, rfl, HR0, HB2⟩
  case round =>
    obtain ⟨i, hi, rfl, HR, HBr⟩ := hrel
    clear HR0
    have HBt := Aside0.mk (HB.out.trans (HBr.out.mono HB.out.size))
    by_cases hlt : i < P.f9.length
    · obtain ⟨ad, cs, rfl, hK, hn, hc⟩ := at_rule (Kd.C_below G9.out HBt.out) i hlt
      have hsum := HT.out.hr i hlt
      have htk : P.f9.take (i + 1) = P.f9.take i ++ [P.f9.getD i z30] := by rw [List.take_succ_eq_append_getElem hlt]; simp [List.getD, hlt]
      have hln : (P.f9.take i).length = i := by rw [List.length_take]; omega
      rw [← hln]
      rw [hln]
      have HTK := Aside0.mk htk
      clear htk
      obtain ⟨B6, d6, B7, d7, B8, d8, B9, d9, B12, d12, B14, d14, B15, d15, B16, d16, rfl, _⟩ := k30_open hK
      have HK := Aside0.mk hK
      have HX := Aside0.mk hc
      clear hK hc
      generalize P.f9.getD i z30 = R at *
      go_wp2_with ((with_reducible refine gate_dst (N := 40) rfl ?_); refine Kd.event_run rfl (load_run 30 (.tmp 39) rfl (ad.add (i * 18)) (by go_simp) [.string R.f0, .int .i64 R.f1, .int .i64 R.f2, .int .i64 R.f3, .int .i64 R.f4, .int .i64 R.f5, .slice B6 R.f6.length d6, .slice B7 R.f7.length d7, .slice B8 R.f8.length d8, .slice B9 R.f9.length d9, .int .i64 R.f10, .int .i64 R.f11, .slice B12 R.f12.length d12, .int .i64 R.f13, .slice B14 R.f14.length d14, .slice B15 R.f15.length d15, .slice B16 R.f16.length d16, .int .i64 R.f17] (fun w => Tryd.sizeOf30 w) Tryd.isAgg30 HX.out) ?_; refine Halt.go ?_)
      unfold Halt
      refine new_event rfl rfl #[.string (⟨#[]⟩ : ByteArray), .int .i64 0, .int .i64 0, .int .i64 0, .int .i64 0, .int .i64 0, .slice none 0 0, .slice none 0 0, .slice none 0 0, .slice none 0 0, .int .i64 0, .int .i64 0, .slice none 0 0, .int .i64 0, .slice none 0 0, .slice none 0 0, .slice none 0 0, .int .i64 0] #[.string R.f0, .int .i64 R.f1, .int .i64 R.f2, .int .i64 R.f3, .int .i64 R.f4, .int .i64 R.f5, .slice B6 R.f6.length d6, .slice B7 R.f7.length d7, .slice B8 R.f8.length d8, .slice B9 R.f9.length d9, .int .i64 R.f10, .int .i64 R.f11, .slice B12 R.f12.length d12, .int .i64 R.f13, .slice B14 R.f14.length d14, .slice B15 R.f15.length d15, .slice B16 R.f16.length d16, .int .i64 R.f17] 30 ?k1 rfl rfl (.tmp 5) (.tmp 40) rfl ?k2 ?k3 ?k4 ?k5 ?k6 ?_
      case k1 => first | (go_simp; done) | (go_simp; rfl)
      case k2 => go_simp
      case k3 => go_simp
      case k4 => kernel_rfl
      case k5 => rfl
      case k6 => simp [Value.oneCell']
      intro g5 hg5 w3 hb5 hbw
      have HB3 := Aside0.mk (HBr.out.trans (hbw.mono HBr.out.size))
      have HR3 := Aside0.mk (Kd.R_below HR.out hbw)
      have HK3 := Aside0.mk (k30.K_below hbw HK.out)
      have B5 := Aside0.mk hb5
      clear hbw hb5 hg5 HX HR HBr HBt
      go_wp2_with ((with_reducible refine gate_dst (N := 42) rfl ?_); refine Kd.event_run rfl (load_run 30 (.tmp 5) rfl ⟨g5, 0, none⟩ (by go_simp) [.string R.f0, .int .i64 R.f1, .int .i64 R.f2, .int .i64 R.f3, .int .i64 R.f4, .int .i64 R.f5, .slice B6 R.f6.length d6, .slice B7 R.f7.length d7, .slice B8 R.f8.length d8, .slice B9 R.f9.length d9, .int .i64 R.f10, .int .i64 R.f11, .slice B12 R.f12.length d12, .int .i64 R.f13, .slice B14 R.f14.length d14, .slice B15 R.f15.length d15, .slice B16 R.f16.length d16, .int .i64 R.f17] (fun w => Tryd.sizeOf30 w) Tryd.isAgg30 (fun j v hj => by rw [Addr.add_lit, Nat.zero_add]; exact (blk_cell B5.out j).trans (by simpa using hj))) ?_)
      refine (copyRule_any R _ _ HK3.out hsum).mono ?_
      rintro e w4 ⟨cs', rfl, hM, hB⟩
      obtain ⟨inr, hown⟩ := Kd.R_own HR3.out
      have HM4 := Aside0.mk (k30.M_lower HB3.out.size (k30.M_mono (fun _ _ => trivial) hM))
      have HM4n := Aside0.mk (k30.M_lower HB3.out.size (Kd.M_new hM hown))
      have HR4 := Aside0.mk (Kd.R_below HR3.out hB)
      have HB4 := Aside0.mk (HB3.out.trans (hB.mono HB3.out.size))
      obtain ⟨v6, v7, v8, v9, v12, v14, v15, v16, rfl, r6, r7, r8, r9, r12, r14, r15, r16⟩ := k30_openM hM
      clear hM hB hown HR3 HB3 HK3 B5
      obtain ⟨S6, s6, rfl⟩ := Kd.R_slice r6
      obtain ⟨S7, s7, rfl⟩ := Kd.R_slice r7
      obtain ⟨S8, s8, rfl⟩ := Kd.R_slice r8
      obtain ⟨S9, s9, rfl⟩ := Kd.R_slice r9
      obtain ⟨S12, s12, rfl⟩ := Kd.R_slice r12
      obtain ⟨S14, s14, rfl⟩ := Kd.R_slice r14
      obtain ⟨S15, s15, rfl⟩ := Kd.R_slice r15
      obtain ⟨S16, s16, rfl⟩ := Kd.R_slice r16
      clear r6 r7 r8 r9 r12 r14 r15 r16
      go_wp2_with ((with_reducible refine gate_builtin (b := .append) (xs := #[.tmp 41, .tmp 44]) rfl ?_); at_builtin; refine Kd.R_append k30 (w0 := wb8) wb8.heap.size rfl (.tmp 41) (.tmp 44) 25 30 _ 280 rfl Tryd.underlying25 info30 rfl (by decide) (by decide) _ (P.f9.take i) R [.string R.f0, .int .i64 R.f1, .int .i64 R.f2, .int .i64 R.f3, .int .i64 R.f4, .int .i64 R.f5, .slice S6 R.f6.length s6, .slice S7 R.f7.length s7, .slice S8 R.f8.length s8, .slice S9 R.f9.length s9, .int .i64 R.f10, .int .i64 R.f11, .slice S12 R.f12.length s12, .int .i64 R.f13, .slice S14 R.f14.length s14, .slice S15 R.f15.length s15, .slice S16 R.f16.length s16, .int .i64 R.f17] (fun _ => True) _ rfl rfl HM4n.out (fun k h => ⟨trivial, h.2⟩) (fun _ _ => trivial) HR4.out HB4.out HB4.out.size (by rw [hln]; omega) ?_; intro v1 w5 hR hB hg_ hat_; have HR5 := Aside0.mk hR; have HB5 := Aside0.mk hB; clear hR hB hg_ hat_; rw [← HTK.out] at HR5)
      go_wp2_with fail
      go_roundw
      case rel => exact ⟨i + 1, by omega, by go_num, HR5, HB5⟩
      case measure => simp [intOf]; omega
    · have hi2 : i = P.f9.length := by omega
      subst hi2
      rw [List.take_length] at HR
      obtain ⟨E9, e9, hv⟩ := Kd.R_slice HR.out
      subst hv
      obtain ⟨lo9, hlo9⟩ : ∃ lo, lo = wb8.heap.size := ⟨_, rfl⟩
      have ord9 : hi8 ≤ lo9 := by rw [hlo9]; exact HH.out
      have R9 := Aside0.mk (Kd.R_lower (Kd.R_mono (ok' := fun x => lo9 ≤ x) (Kd.R_bound HR.out) (fun k hk => by rw [hlo9]; exact hk.2.1)) HB.out.size)
      clear hlo9
      have n_BP := Aside0.mk (blk_below BP.out HBr.out)
      have n_BQ := Aside0.mk (blk_below BQ.out HBr.out)
      have n_HB := Aside0.mk (HB.out.trans (Below.mono HBr.out HB.out.size))
      have n_HH := Aside0.mk (Nat.le_trans (by exact HH.out) (Below.size HBr.out))
      have n_R2 := Aside0.mk (Kd.R_below R2.out HBr.out)
      have n_R3 := Aside0.mk (Kd.R_below R3.out HBr.out)
      have n_R4 := Aside0.mk (Kd.R_below R4.out HBr.out)
      have n_R6 := Aside0.mk (Kd.R_below R6.out HBr.out)
      have n_R7 := Aside0.mk (Kd.R_below R7.out HBr.out)
      have n_R8 := Aside0.mk (Kd.R_below R8.out HBr.out)
      clear BP BQ HB HH R2 R3 R4 R6 R7 R8
      have BP := n_BP
      have BQ := n_BQ
      have HB := n_HB
      have HH := n_HH
      have R2 := n_R2
      have R3 := n_R3
      have R4 := n_R4
      have R6 := n_R6
      have R7 := n_R7
      have R8 := n_R8
      clear n_BP n_BQ n_HB n_HH n_R2 n_R3 n_R4 n_R6 n_R7 n_R8
      clear HR HBr HBt HBw HB2
      have sc : wr.cell? ⟨g, 9, none⟩ = some (.slice A9 P.f9.length c9) := (blk_cell BP.out 9).trans rfl
      have sf := blk_frozen BP.out 9
      go_upto_region 10 with (fail)
      clear sc sf
      obtain ⟨wb9, hwb⟩ : ∃ wb, wb = wr.setCell ⟨g, 9, none⟩ (.slice E9 P.f9.length e9) := ⟨_, rfl⟩
      rw [← hwb]
      have n_BP : Aside0 (wb9.heap[g]? = some (.cells #[.string P.f0, .int .i64 P.f1, .slice E2 P.f2.length e2, .slice E3 P.f3.length e3, .slice E4 P.f4.length e4, .int .i64 P.f5, .slice E6 P.f6.length e6, .slice E7 P.f7.length e7, .slice E8 P.f8.length e8, .slice E9 P.f9.length e9] 27 (0, 0))) := ⟨by rw [hwb]; exact blk_put BP.out 9 _ rfl⟩
      have n_BQ : Aside0 (wb9.heap[g2]? = some (.cells #[.string (⟨#[]⟩ : ByteArray), .int .i64 0, .slice none 0 0, .slice none 0 0, .slice none 0 0, .int .i64 0, .slice none 0 0, .slice none 0 0, .slice none 0 0, .slice none 0 0] 27 (0, 0))) := ⟨by rw [hwb]; exact (Below.heap_setCell _ _ _ _ hg2).trans BQ.out⟩
      have n_HB : Aside0 (Below w.heap.size w wb9) := ⟨by rw [hwb]; exact HB.out.setCell hg1 _⟩
      have n_R2 : Aside0 (Kd.R Kd.string 9 wb9 w.heap.size (fun x => lo2 ≤ x ∧ x < hi2) (.slice E2 P.f2.length e2) P.f2) := ⟨by rw [hwb]; exact Kd.R_set R2.out BP.out (by decide) 9 _⟩
      have n_R3 : Aside0 (Kd.R Kd.string 9 wb9 w.heap.size (fun x => lo3 ≤ x ∧ x < hi3) (.slice E3 P.f3.length e3) P.f3) := ⟨by rw [hwb]; exact Kd.R_set R3.out BP.out (by decide) 9 _⟩
      have n_R4 : Aside0 (Kd.R Kd.string 9 wb9 w.heap.size (fun x => lo4 ≤ x ∧ x < hi4) (.slice E4 P.f4.length e4) P.f4) := ⟨by rw [hwb]; exact Kd.R_set R4.out BP.out (by decide) 9 _⟩
      have n_R6 : Aside0 (Kd.R k48 48 wb9 w.heap.size (fun x => lo6 ≤ x ∧ x < hi6) (.slice E6 P.f6.length e6) P.f6) := ⟨by rw [hwb]; exact Kd.R_set R6.out BP.out (by decide) 9 _⟩
      have n_R7 : Aside0 (Kd.R (Kd.int .i64) 3 wb9 w.heap.size (fun x => lo7 ≤ x ∧ x < hi7) (.slice E7 P.f7.length e7) P.f7) := ⟨by rw [hwb]; exact Kd.R_set R7.out BP.out (by decide) 9 _⟩
      have n_R8 : Aside0 (Kd.R (Kd.int .i64) 3 wb9 w.heap.size (fun x => lo8 ≤ x ∧ x < hi8) (.slice E8 P.f8.length e8) P.f8) := ⟨by rw [hwb]; exact Kd.R_set R8.out BP.out (by decide) 9 _⟩
      have n_R9 : Aside0 (Kd.R k30 30 wb9 w.heap.size (fun x => lo9 ≤ x) (.slice E9 P.f9.length e9) P.f9) := ⟨by rw [hwb]; exact Kd.R_set R9.out BP.out (by decide) 9 _⟩
      have n_HH : Aside0 (hi8 ≤ wb9.heap.size) := ⟨by rw [hwb]; simpa using HH.out⟩
      clear BP BQ HB HH R2 R3 R4 R6 R7 R8 R9 hwb
      have BP := n_BP
      have BQ := n_BQ
      have HB := n_HB
      have HH := n_HH
      have R2 := n_R2
      have R3 := n_R3
      have R4 := n_R4
      have R6 := n_R6
      have R7 := n_R7
      have R8 := n_R8
      have R9 := n_R9
      clear n_BP n_BQ n_HB n_HH n_R2 n_R3 n_R4 n_R6 n_R7 n_R8 n_R9
      go_wp2_with ((with_reducible refine gate_dst (N := 49) rfl ?_); refine copy_event rfl rfl 27 (.tmp 1) (.tmp 2) rfl rfl rfl rfl g g2 27 #[.string (⟨#[]⟩ : ByteArray), .int .i64 0, .slice none 0 0, .slice none 0 0, .slice none 0 0, .int .i64 0, .slice none 0 0, .slice none 0 0, .slice none 0 0, .slice none 0 0] #[.string P.f0, .int .i64 P.f1, .slice E2 P.f2.length e2, .slice E3 P.f3.length e3, .slice E4 P.f4.length e4, .int .i64 P.f5, .slice E6 P.f6.length e6, .slice E7 P.f7.length e7, .slice E8 P.f8.length e8, .slice E9 P.f9.length e9] (by go_simp) (by go_simp) (by go_simp) BP.out BQ.out (fun w => Tryd.sizeOf27 w) Tryd.isAgg27 (by kernel_rfl) rfl (by simp [Value.oneCell']) ?_; intro w9 hb9 hm9 hB9)
      have r2 := Kd.R_mono (R_copy R2.out BQ.out (by decide) hm9) (fun _ h => h)
      have r3 := Kd.R_mono (R_copy R3.out BQ.out (by decide) hm9) (fun _ h => h)
      have r4 := Kd.R_mono (R_copy R4.out BQ.out (by decide) hm9) (fun _ h => h)
      have r6 := Kd.R_mono (R_copy R6.out BQ.out (by decide) hm9) (fun _ h => h)
      have r7 := Kd.R_mono (R_copy R7.out BQ.out (by decide) hm9) (fun _ h => h)
      have r8 := Kd.R_mono (R_copy R8.out BQ.out (by decide) hm9) (fun _ h => h)
      have r9 := Kd.R_mono (R_copy R9.out BQ.out (by decide) hm9) (fun _ h => h)
      have hBn := hB9 _ _ HB.out hg3
      go_wp2_with fail
      refine bodyPost_ret (results_cell_row rfl _ _ g2 27 #[.string P.f0, .int .i64 P.f1, .slice E2 P.f2.length e2, .slice E3 P.f3.length e3, .slice E4 P.f4.length e4, .int .i64 P.f5, .slice E6 P.f6.length e6, .slice E7 P.f7.length e7, .slice E8 P.f8.length e8, .slice E9 P.f9.length e9] (0, 0) _ rfl hb9 Tryd.underlying27 rfl (by kernel_rfl)) rfl ?_
      exact ⟨_, rfl, ⟨_, _, _, _, _, _, _, lo2, hi2, lo3, hi3, lo4, hi4, lo6, hi6, lo7, hi7, lo8, hi8, lo9, rfl, r2, r3, r4, r6, r7, r8, r9, ord3, ord4, ord6, ord7, ord8, ord9, le3, le4, le6, le7, le8⟩, hBn⟩
end Go.Proofs.YtoggkfapdomhgaaDoor.Pr
