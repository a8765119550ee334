/- Weak contracts of sameRule, equalRule, EqualFunc at rules and Equal: equal contents give true. Conditions: each theorem's own premises. -/
import Derived.Test.YtoggkfapdomhgaaDoorHn
namespace Go.Proofs.YtoggkfapdomhgaaDoor.Pr
open Go.RowKit Go.Proofs.YtoggkfapdomhgaaDoorW.PrintWords Go.Proofs.YtoggkfapdomhgaaDoorW.PrintLast Go.Proofs.YtoggkfapdomhgaaDoorW.PrintMore
set_option linter.unusedVariables false
set_option linter.unusedSimpArgs false
set_option maxRecDepth 100000
/-- A weak test of two contents. -/
def Weak1 {α : Type} (x y : α) (w w' : World) (e : Ending) : Prop := ∃ b : Bool, e = .returned (.bool b) ∧ (x = y → b = true) ∧ Below w.heap.size w w'
set_option maxHeartbeats 8000000 in
theorem same_weak (R S : S30) (cs ds : List Value) (w : World) (hR : k30.K w R cs) (hS : k30.K w S ds) :
    Calls Tryd.prog 25 #[.agg cs.toArray, .agg ds.toArray] w fun e w' => Weak1 R S w w' e := by
  have HR := Aside0.mk hR
  have HS := Aside0.mk hS
  obtain ⟨A6, c6, A7, c7, A8, c8, A9, c9, A12, c12, A14, c14, A15, c15, A16, c16, rfl, _, ga6, _, ga7, _, ga8, _, ga9, _, ga12, _, ga14, _, ga15, _, ga16⟩ := k30_open hR
  obtain ⟨B6, d6, B7, d7, B8, d8, B9, d9, B12, d12, B14, d14, B15, d15, B16, d16, rfl, _, gb6, _, gb7, _, gb8, _, gb9, _, gb12, _, gb14, _, gb15, _, gb16⟩ := k30_open hS
  have GA6 := Aside0.mk ga6
  have GB6 := Aside0.mk gb6
  have GA7 := Aside0.mk ga7
  have GB7 := Aside0.mk gb7
  have GA8 := Aside0.mk ga8
  have GB8 := Aside0.mk gb8
  have GA9 := Aside0.mk ga9
  have GB9 := Aside0.mk gb9
  have GA12 := Aside0.mk ga12
  have GB12 := Aside0.mk gb12
  have GA14 := Aside0.mk ga14
  have GB14 := Aside0.mk gb14
  have GA15 := Aside0.mk ga15
  have GB15 := Aside0.mk gb15
  have GA16 := Aside0.mk ga16
  have GB16 := Aside0.mk gb16
  clear hR hS ga6 gb6 ga7 gb7 ga8 gb8 ga9 gb9 ga12 gb12 ga14 gb14 ga15 gb15 ga16 gb16
  go_enter Tryd.func25, Tryd.ntmps25
  go_upto_region 1 with (fail)
  obtain ⟨g, hg⟩ : ∃ g, g = w.heap.size := ⟨_, rfl⟩
  obtain ⟨g2, hg2e⟩ : ∃ g2, g2 = w.heap.size + 1 := ⟨_, rfl⟩
  obtain ⟨w1, hw1⟩ : ∃ w1, w1 = (w.alloc (.cells #[.string R.f0, .int .i64 R.f1, .int .i64 R.f2, .int .i64 R.f3, .int .i64 R.f4, .int .i64 R.f5, .slice A6 R.f6.length c6, .slice A7 R.f7.length c7, .slice A8 R.f8.length c8, .slice A9 R.f9.length c9, .int .i64 R.f10, .int .i64 R.f11, .slice A12 R.f12.length c12, .int .i64 R.f13, .slice A14 R.f14.length c14, .slice A15 R.f15.length c15, .slice A16 R.f16.length c16, .int .i64 R.f17] 30)).alloc (.cells #[.string S.f0, .int .i64 S.f1, .int .i64 S.f2, .int .i64 S.f3, .int .i64 S.f4, .int .i64 S.f5, .slice B6 S.f6.length d6, .slice B7 S.f7.length d7, .slice B8 S.f8.length d8, .slice B9 S.f9.length d9, .int .i64 S.f10, .int .i64 S.f11, .slice B12 S.f12.length d12, .int .i64 S.f13, .slice B14 S.f14.length d14, .slice B15 S.f15.length d15, .slice B16 S.f16.length d16, .int .i64 S.f17] 30) := ⟨_, rfl⟩
  rw [← hw1]
  have BP : Aside0 (w1.heap[g]? = some (.cells #[.string R.f0, .int .i64 R.f1, .int .i64 R.f2, .int .i64 R.f3, .int .i64 R.f4, .int .i64 R.f5, .slice A6 R.f6.length c6, .slice A7 R.f7.length c7, .slice A8 R.f8.length c8, .slice A9 R.f9.length c9, .int .i64 R.f10, .int .i64 R.f11, .slice A12 R.f12.length c12, .int .i64 R.f13, .slice A14 R.f14.length c14, .slice A15 R.f15.length c15, .slice A16 R.f16.length c16, .int .i64 R.f17] 30 (0, 0))) := ⟨by rw [hw1, hg]; exact blk_alloc (heap_alloc_new w _) _⟩
  have BQ : Aside0 (w1.heap[g2]? = some (.cells #[.string S.f0, .int .i64 S.f1, .int .i64 S.f2, .int .i64 S.f3, .int .i64 S.f4, .int .i64 S.f5, .slice B6 S.f6.length d6, .slice B7 S.f7.length d7, .slice B8 S.f8.length d8, .slice B9 S.f9.length d9, .int .i64 S.f10, .int .i64 S.f11, .slice B12 S.f12.length d12, .int .i64 S.f13, .slice B14 S.f14.length d14, .slice B15 S.f15.length d15, .slice B16 S.f16.length d16, .int .i64 S.f17] 30 (0, 0))) := ⟨by rw [hw1, hg2e, show w.heap.size + 1 = (w.alloc (.cells #[.string R.f0, .int .i64 R.f1, .int .i64 R.f2, .int .i64 R.f3, .int .i64 R.f4, .int .i64 R.f5, .slice A6 R.f6.length c6, .slice A7 R.f7.length c7, .slice A8 R.f8.length c8, .slice A9 R.f9.length c9, .int .i64 R.f10, .int .i64 R.f11, .slice A12 R.f12.length c12, .int .i64 R.f13, .slice A14 R.f14.length c14, .slice A15 R.f15.length c15, .slice A16 R.f16.length c16, .int .i64 R.f17] 30)).heap.size from by simp]; exact heap_alloc_new _ _⟩
  have HB : Aside0 (Below w.heap.size w w1) := ⟨by rw [hw1]; exact ((Below.refl _ _).alloc (Nat.le_refl _) _).alloc (by simp) _⟩
  simp only [← hg2e]
  simp only [← hg]
  clear hw1 hg hg2e
  obtain ⟨x_1, hx⟩ : ∃ x, x = R.f1 := ⟨_, rfl⟩
  obtain ⟨y_1, hy⟩ : ∃ y, y = S.f1 := ⟨_, rfl⟩
  have x1 : w1.cell? ⟨g, 1, none⟩ = some (.int .i64 x_1) := by rw [hx]; exact (blk_cell BP.out 1).trans rfl
  have y1 : w1.cell? ⟨g2, 1, none⟩ = some (.int .i64 y_1) := by rw [hy]; exact (blk_cell BQ.out 1).trans rfl
  have HX1 := Aside0.mk hx
  have HY1 := Aside0.mk hy
  clear hx hy
  obtain ⟨x_2, hx⟩ : ∃ x, x = R.f2 := ⟨_, rfl⟩
  obtain ⟨y_2, hy⟩ : ∃ y, y = S.f2 := ⟨_, rfl⟩
  have x2 : w1.cell? ⟨g, 2, none⟩ = some (.int .i64 x_2) := by rw [hx]; exact (blk_cell BP.out 2).trans rfl
  have y2 : w1.cell? ⟨g2, 2, none⟩ = some (.int .i64 y_2) := by rw [hy]; exact (blk_cell BQ.out 2).trans rfl
  have HX2 := Aside0.mk hx
  have HY2 := Aside0.mk hy
  clear hx hy
  obtain ⟨x_3, hx⟩ : ∃ x, x = R.f3 := ⟨_, rfl⟩
  obtain ⟨y_3, hy⟩ : ∃ y, y = S.f3 := ⟨_, rfl⟩
  have x3 : w1.cell? ⟨g, 3, none⟩ = some (.int .i64 x_3) := by rw [hx]; exact (blk_cell BP.out 3).trans rfl
  have y3 : w1.cell? ⟨g2, 3, none⟩ = some (.int .i64 y_3) := by rw [hy]; exact (blk_cell BQ.out 3).trans rfl
  have HX3 := Aside0.mk hx
  have HY3 := Aside0.mk hy
  clear hx hy
  obtain ⟨x_4, hx⟩ : ∃ x, x = R.f4 := ⟨_, rfl⟩
  obtain ⟨y_4, hy⟩ : ∃ y, y = S.f4 := ⟨_, rfl⟩
  have x4 : w1.cell? ⟨g, 4, none⟩ = some (.int .i64 x_4) := by rw [hx]; exact (blk_cell BP.out 4).trans rfl
  have y4 : w1.cell? ⟨g2, 4, none⟩ = some (.int .i64 y_4) := by rw [hy]; exact (blk_cell BQ.out 4).trans rfl
  have HX4 := Aside0.mk hx
  have HY4 := Aside0.mk hy
  clear hx hy
  obtain ⟨x_5, hx⟩ : ∃ x, x = R.f5 := ⟨_, rfl⟩
  obtain ⟨y_5, hy⟩ : ∃ y, y = S.f5 := ⟨_, rfl⟩
  have x5 : w1.cell? ⟨g, 5, none⟩ = some (.int .i64 x_5) := by rw [hx]; exact (blk_cell BP.out 5).trans rfl
  have y5 : w1.cell? ⟨g2, 5, none⟩ = some (.int .i64 y_5) := by rw [hy]; exact (blk_cell BQ.out 5).trans rfl
  have HX5 := Aside0.mk hx
  have HY5 := Aside0.mk hy
  clear hx hy
  obtain ⟨x_10, hx⟩ : ∃ x, x = R.f10 := ⟨_, rfl⟩
  obtain ⟨y_10, hy⟩ : ∃ y, y = S.f10 := ⟨_, rfl⟩
  have x10 : w1.cell? ⟨g, 10, none⟩ = some (.int .i64 x_10) := by rw [hx]; exact (blk_cell BP.out 10).trans rfl
  have y10 : w1.cell? ⟨g2, 10, none⟩ = some (.int .i64 y_10) := by rw [hy]; exact (blk_cell BQ.out 10).trans rfl
  have HX10 := Aside0.mk hx
  have HY10 := Aside0.mk hy
  clear hx hy
  obtain ⟨x_11, hx⟩ : ∃ x, x = R.f11 := ⟨_, rfl⟩
  obtain ⟨y_11, hy⟩ : ∃ y, y = S.f11 := ⟨_, rfl⟩
  have x11 : w1.cell? ⟨g, 11, none⟩ = some (.int .i64 x_11) := by rw [hx]; exact (blk_cell BP.out 11).trans rfl
  have y11 : w1.cell? ⟨g2, 11, none⟩ = some (.int .i64 y_11) := by rw [hy]; exact (blk_cell BQ.out 11).trans rfl
  have HX11 := Aside0.mk hx
  have HY11 := Aside0.mk hy
  clear hx hy
  obtain ⟨x_13, hx⟩ : ∃ x, x = R.f13 := ⟨_, rfl⟩
  obtain ⟨y_13, hy⟩ : ∃ y, y = S.f13 := ⟨_, rfl⟩
  have x13 : w1.cell? ⟨g, 13, none⟩ = some (.int .i64 x_13) := by rw [hx]; exact (blk_cell BP.out 13).trans rfl
  have y13 : w1.cell? ⟨g2, 13, none⟩ = some (.int .i64 y_13) := by rw [hy]; exact (blk_cell BQ.out 13).trans rfl
  have HX13 := Aside0.mk hx
  have HY13 := Aside0.mk hy
  clear hx hy
  obtain ⟨x_17, hx⟩ : ∃ x, x = R.f17 := ⟨_, rfl⟩
  obtain ⟨y_17, hy⟩ : ∃ y, y = S.f17 := ⟨_, rfl⟩
  have x17 : w1.cell? ⟨g, 17, none⟩ = some (.int .i64 x_17) := by rw [hx]; exact (blk_cell BP.out 17).trans rfl
  have y17 : w1.cell? ⟨g2, 17, none⟩ = some (.int .i64 y_17) := by rw [hy]; exact (blk_cell BQ.out 17).trans rfl
  have HX17 := Aside0.mk hx
  have HY17 := Aside0.mk hy
  clear hx hy
  go_cut [5] (fun v5 wc => ∃ m : Bool, v5 = .bool m ∧ (R = S → m = true) ∧ w1 = wc)
  case first =>
    by_cases c : x_1 = y_1
    case neg =>
      have q : (x_1 == y_1) = false := beq_eq_false_iff_ne.mpr c
      go_wp2_with fail
      go_meet
      exact ⟨_, rfl, fun h => absurd (by rw [HX1.out, HY1.out, h]) c, by first | rfl | trivial⟩
    have q1 : (x_1 == y_1) = true := beq_iff_eq.mpr c
    clear c
    by_cases c : x_2 = y_2
    case neg =>
      have q : (x_2 == y_2) = false := beq_eq_false_iff_ne.mpr c
      go_wp2_with fail
      go_meet
      exact ⟨_, rfl, fun h => absurd (by rw [HX2.out, HY2.out, h]) c, by first | rfl | trivial⟩
    have q2 : (x_2 == y_2) = true := beq_iff_eq.mpr c
    clear c
    by_cases c : x_3 = y_3
    case neg =>
      have q : (x_3 == y_3) = false := beq_eq_false_iff_ne.mpr c
      go_wp2_with fail
      go_meet
      exact ⟨_, rfl, fun h => absurd (by rw [HX3.out, HY3.out, h]) c, by first | rfl | trivial⟩
    have q3 : (x_3 == y_3) = true := beq_iff_eq.mpr c
    clear c
    by_cases c : x_4 = y_4
    case neg =>
      have q : (x_4 == y_4) = false := beq_eq_false_iff_ne.mpr c
      go_wp2_with fail
      go_meet
      exact ⟨_, rfl, fun h => absurd (by rw [HX4.out, HY4.out, h]) c, by first | rfl | trivial⟩
    have q4 : (x_4 == y_4) = true := beq_iff_eq.mpr c
    clear c
    by_cases c : x_5 = y_5
    case neg =>
      have q : (x_5 == y_5) = false := beq_eq_false_iff_ne.mpr c
      go_wp2_with fail
      go_meet
      exact ⟨_, rfl, fun h => absurd (by rw [HX5.out, HY5.out, h]) c, by first | rfl | trivial⟩
    have q5 : (x_5 == y_5) = true := beq_iff_eq.mpr c
    clear c
    by_cases c : x_10 = y_10
    case neg =>
      have q : (x_10 == y_10) = false := beq_eq_false_iff_ne.mpr c
      go_wp2_with fail
      go_meet
      exact ⟨_, rfl, fun h => absurd (by rw [HX10.out, HY10.out, h]) c, by first | rfl | trivial⟩
    have q10 : (x_10 == y_10) = true := beq_iff_eq.mpr c
    clear c
    by_cases c : x_11 = y_11
    case neg =>
      have q : (x_11 == y_11) = false := beq_eq_false_iff_ne.mpr c
      go_wp2_with fail
      go_meet
      exact ⟨_, rfl, fun h => absurd (by rw [HX11.out, HY11.out, h]) c, by first | rfl | trivial⟩
    have q11 : (x_11 == y_11) = true := beq_iff_eq.mpr c
    clear c
    by_cases c : x_13 = y_13
    case neg =>
      have q : (x_13 == y_13) = false := beq_eq_false_iff_ne.mpr c
      go_wp2_with fail
      go_meet
      exact ⟨_, rfl, fun h => absurd (by rw [HX13.out, HY13.out, h]) c, by first | rfl | trivial⟩
    have q13 : (x_13 == y_13) = true := beq_iff_eq.mpr c
    clear c
    by_cases c : x_17 = y_17
    case neg =>
      have q : (x_17 == y_17) = false := beq_eq_false_iff_ne.mpr c
      go_wp2_with fail
      go_meet
      exact ⟨_, rfl, fun h => absurd (by rw [HX17.out, HY17.out, h]) c, by first | rfl | trivial⟩
    have q17 : (x_17 == y_17) = true := beq_iff_eq.mpr c
    clear c
    go_wp2_with fail
    go_meet
    exact ⟨_, rfl, fun _ => rfl, by first | rfl | trivial⟩
  case rest =>
  obtain ⟨m, rfl, hm, rfl⟩ := hcut
  have HM := Aside0.mk hm
  clear hm x1 y1 x2 y2 x3 y3 x4 y4 x5 y5 x10 y10 x11 y11 x13 y13 x17 y17
  cases m
  case false =>
    go_wp2_with fail
    go_ret
    exact ⟨_, rfl, fun h => absurd (HM.out h) (by decide), HB.out⟩
  have x6 : w1.cell? ⟨g, 6, none⟩ = some (.slice A6 R.f6.length c6) := (blk_cell BP.out 6).trans rfl
  have y6 : w1.cell? ⟨g2, 6, none⟩ = some (.slice B6 S.f6.length d6) := (blk_cell BQ.out 6).trans rfl
  go_wp2_with fail
  refine (eqI_any A6 c6 R.f6 B6 d6 S.f6 _ (Kd.C_below GA6.out HB.out) (Kd.C_below GB6.out HB.out)).mono ?_
  rintro e w2 ⟨b6, rfl, hb6, _, hB⟩
  have HW6 := Aside0.mk hb6
  clear hb6 x6 y6
  have n0_ := Aside0.mk (blk_below BP.out hB)
  have n1_ := Aside0.mk (blk_below BQ.out hB)
  have n2_ := Aside0.mk (HB.out.trans (Below.mono hB HB.out.size))
  clear BP BQ HB
  have BP := n0_
  have BQ := n1_
  have HB := n2_
  clear n0_ n1_ n2_
  clear hB
  cases b6
  case false =>
    go_wp2_with fail
    go_ret
    exact ⟨_, rfl, fun h => absurd (HW6.out (by rw [h])) (by decide), HB.out⟩
  have x7 : w2.cell? ⟨g, 7, none⟩ = some (.slice A7 R.f7.length c7) := (blk_cell BP.out 7).trans rfl
  have y7 : w2.cell? ⟨g2, 7, none⟩ = some (.slice B7 S.f7.length d7) := (blk_cell BQ.out 7).trans rfl
  go_wp2_with fail
  refine (eqT_any A7 c7 R.f7 B7 d7 S.f7 _ (Kd.C_below GA7.out HB.out) (Kd.C_below GB7.out HB.out)).mono ?_
  rintro e w3 ⟨b7, rfl, hb7, _, hB⟩
  have HW7 := Aside0.mk hb7
  clear hb7 x7 y7
  have n0_ := Aside0.mk (blk_below BP.out hB)
  have n1_ := Aside0.mk (blk_below BQ.out hB)
  have n2_ := Aside0.mk (HB.out.trans (Below.mono hB HB.out.size))
  clear BP BQ HB
  have BP := n0_
  have BQ := n1_
  have HB := n2_
  clear n0_ n1_ n2_
  clear hB
  cases b7
  case false =>
    go_wp2_with fail
    go_ret
    exact ⟨_, rfl, fun h => absurd (HW7.out (by rw [h])) (by decide), HB.out⟩
  have x8 : w3.cell? ⟨g, 8, none⟩ = some (.slice A8 R.f8.length c8) := (blk_cell BP.out 8).trans rfl
  have y8 : w3.cell? ⟨g2, 8, none⟩ = some (.slice B8 S.f8.length d8) := (blk_cell BQ.out 8).trans rfl
  go_wp2_with fail
  refine (eqI_any A8 c8 R.f8 B8 d8 S.f8 _ (Kd.C_below GA8.out HB.out) (Kd.C_below GB8.out HB.out)).mono ?_
  rintro e w4 ⟨b8, rfl, hb8, _, hB⟩
  have HW8 := Aside0.mk hb8
  clear hb8 x8 y8
  have n0_ := Aside0.mk (blk_below BP.out hB)
  have n1_ := Aside0.mk (blk_below BQ.out hB)
  have n2_ := Aside0.mk (HB.out.trans (Below.mono hB HB.out.size))
  clear BP BQ HB
  have BP := n0_
  have BQ := n1_
  have HB := n2_
  clear n0_ n1_ n2_
  clear hB
  cases b8
  case false =>
    go_wp2_with fail
    go_ret
    exact ⟨_, rfl, fun h => absurd (HW8.out (by rw [h])) (by decide), HB.out⟩
  have x9 : w4.cell? ⟨g, 9, none⟩ = some (.slice A9 R.f9.length c9) := (blk_cell BP.out 9).trans rfl
  have y9 : w4.cell? ⟨g2, 9, none⟩ = some (.slice B9 S.f9.length d9) := (blk_cell BQ.out 9).trans rfl
  go_wp2_with fail
  refine (eqI_any A9 c9 R.f9 B9 d9 S.f9 _ (Kd.C_below GA9.out HB.out) (Kd.C_below GB9.out HB.out)).mono ?_
  rintro e w5 ⟨b9, rfl, hb9, _, hB⟩
  have HW9 := Aside0.mk hb9
  clear hb9 x9 y9
  have n0_ := Aside0.mk (blk_below BP.out hB)
  have n1_ := Aside0.mk (blk_below BQ.out hB)
  have n2_ := Aside0.mk (HB.out.trans (Below.mono hB HB.out.size))
  clear BP BQ HB
  have BP := n0_
  have BQ := n1_
  have HB := n2_
  clear n0_ n1_ n2_
  clear hB
  cases b9
  case false =>
    go_wp2_with fail
    go_ret
    exact ⟨_, rfl, fun h => absurd (HW9.out (by rw [h])) (by decide), HB.out⟩
  have x12 : w5.cell? ⟨g, 12, none⟩ = some (.slice A12 R.f12.length c12) := (blk_cell BP.out 12).trans rfl
  have y12 : w5.cell? ⟨g2, 12, none⟩ = some (.slice B12 S.f12.length d12) := (blk_cell BQ.out 12).trans rfl
  go_wp2_with fail
  refine (eqI_any A12 c12 R.f12 B12 d12 S.f12 _ (Kd.C_below GA12.out HB.out) (Kd.C_below GB12.out HB.out)).mono ?_
  rintro e w6 ⟨b12, rfl, hb12, _, hB⟩
  have HW12 := Aside0.mk hb12
  clear hb12 x12 y12
  have n0_ := Aside0.mk (blk_below BP.out hB)
  have n1_ := Aside0.mk (blk_below BQ.out hB)
  have n2_ := Aside0.mk (HB.out.trans (Below.mono hB HB.out.size))
  clear BP BQ HB
  have BP := n0_
  have BQ := n1_
  have HB := n2_
  clear n0_ n1_ n2_
  clear hB
  cases b12
  case false =>
    go_wp2_with fail
    go_ret
    exact ⟨_, rfl, fun h => absurd (HW12.out (by rw [h])) (by decide), HB.out⟩
  have x14 : w6.cell? ⟨g, 14, none⟩ = some (.slice A14 R.f14.length c14) := (blk_cell BP.out 14).trans rfl
  have y14 : w6.cell? ⟨g2, 14, none⟩ = some (.slice B14 S.f14.length d14) := (blk_cell BQ.out 14).trans rfl
  go_wp2_with fail
  refine (eqI_any A14 c14 R.f14 B14 d14 S.f14 _ (Kd.C_below GA14.out HB.out) (Kd.C_below GB14.out HB.out)).mono ?_
  rintro e w7 ⟨b14, rfl, hb14, _, hB⟩
  have HW14 := Aside0.mk hb14
  clear hb14 x14 y14
  have n0_ := Aside0.mk (blk_below BP.out hB)
  have n1_ := Aside0.mk (blk_below BQ.out hB)
  have n2_ := Aside0.mk (HB.out.trans (Below.mono hB HB.out.size))
  clear BP BQ HB
  have BP := n0_
  have BQ := n1_
  have HB := n2_
  clear n0_ n1_ n2_
  clear hB
  cases b14
  case false =>
    go_wp2_with fail
    go_ret
    exact ⟨_, rfl, fun h => absurd (HW14.out (by rw [h])) (by decide), HB.out⟩
  have x15 : w7.cell? ⟨g, 15, none⟩ = some (.slice A15 R.f15.length c15) := (blk_cell BP.out 15).trans rfl
  have y15 : w7.cell? ⟨g2, 15, none⟩ = some (.slice B15 S.f15.length d15) := (blk_cell BQ.out 15).trans rfl
  go_wp2_with fail
  refine (eqI_any A15 c15 R.f15 B15 d15 S.f15 _ (Kd.C_below GA15.out HB.out) (Kd.C_below GB15.out HB.out)).mono ?_
  rintro e w8 ⟨b15, rfl, hb15, _, hB⟩
  have HW15 := Aside0.mk hb15
  clear hb15 x15 y15
  have n0_ := Aside0.mk (blk_below BP.out hB)
  have n1_ := Aside0.mk (blk_below BQ.out hB)
  have n2_ := Aside0.mk (HB.out.trans (Below.mono hB HB.out.size))
  clear BP BQ HB
  have BP := n0_
  have BQ := n1_
  have HB := n2_
  clear n0_ n1_ n2_
  clear hB
  cases b15
  case false =>
    go_wp2_with fail
    go_ret
    exact ⟨_, rfl, fun h => absurd (HW15.out (by rw [h])) (by decide), HB.out⟩
  have x16 : w8.cell? ⟨g, 16, none⟩ = some (.slice A16 R.f16.length c16) := (blk_cell BP.out 16).trans rfl
  have y16 : w8.cell? ⟨g2, 16, none⟩ = some (.slice B16 S.f16.length d16) := (blk_cell BQ.out 16).trans rfl
  go_wp2_with fail
  refine (eqI_any A16 c16 R.f16 B16 d16 S.f16 _ (Kd.C_below GA16.out HB.out) (Kd.C_below GB16.out HB.out)).mono ?_
  rintro e w9 ⟨b16, rfl, hb16, _, hB⟩
  have HW16 := Aside0.mk hb16
  clear hb16 x16 y16
  have n0_ := Aside0.mk (blk_below BP.out hB)
  have n1_ := Aside0.mk (blk_below BQ.out hB)
  have n2_ := Aside0.mk (HB.out.trans (Below.mono hB HB.out.size))
  clear BP BQ HB
  have BP := n0_
  have BQ := n1_
  have HB := n2_
  clear n0_ n1_ n2_
  clear hB
  cases b16
  case false =>
    go_wp2_with fail
    go_ret
    exact ⟨_, rfl, fun h => absurd (HW16.out (by rw [h])) (by decide), HB.out⟩
  go_wp2_with fail
  go_ret
  exact ⟨_, rfl, fun _ => rfl, HB.out⟩
set_option maxHeartbeats 8000000 in
theorem equalRule_weak (R S : S30) (cs ds : List Value) (w : World) (hR : k30.K w R cs) (hS : k30.K w S ds) :
    Calls Tryd.prog 21 #[.agg cs.toArray, .agg ds.toArray] w fun e w' => Weak1 R S w w' e := by
  have HR := Aside0.mk hR
  have HS := Aside0.mk hS
  obtain ⟨A6, c6, A7, c7, A8, c8, A9, c9, A12, c12, A14, c14, A15, c15, A16, c16, rfl, _, ga6, _, ga7, _, ga8, _, ga9, _, ga12, _, ga14, _, ga15, _, ga16⟩ := k30_open hR
  obtain ⟨B6, d6, B7, d7, B8, d8, B9, d9, B12, d12, B14, d14, B15, d15, B16, d16, rfl, _, gb6, _, gb7, _, gb8, _, gb9, _, gb12, _, gb14, _, gb15, _, gb16⟩ := k30_open hS
  have GA6 := Aside0.mk ga6
  have GB6 := Aside0.mk gb6
  have GA7 := Aside0.mk ga7
  have GB7 := Aside0.mk gb7
  have GA8 := Aside0.mk ga8
  have GB8 := Aside0.mk gb8
  have GA9 := Aside0.mk ga9
  have GB9 := Aside0.mk gb9
  have GA12 := Aside0.mk ga12
  have GB12 := Aside0.mk gb12
  have GA14 := Aside0.mk ga14
  have GB14 := Aside0.mk gb14
  have GA15 := Aside0.mk ga15
  have GB15 := Aside0.mk gb15
  have GA16 := Aside0.mk ga16
  have GB16 := Aside0.mk gb16
  clear hR hS ga6 gb6 ga7 gb7 ga8 gb8 ga9 gb9 ga12 gb12 ga14 gb14 ga15 gb15 ga16 gb16
  go_enter Tryd.func21, Tryd.ntmps21
  go_upto_region 1 with (fail)
  obtain ⟨g, hg⟩ : ∃ g, g = w.heap.size := ⟨_, rfl⟩
  obtain ⟨g2, hg2e⟩ : ∃ g2, g2 = w.heap.size + 1 := ⟨_, rfl⟩
  obtain ⟨w1, hw1⟩ : ∃ w1, w1 = (w.alloc (.cells #[.string R.f0, .int .i64 R.f1, .int .i64 R.f2, .int .i64 R.f3, .int .i64 R.f4, .int .i64 R.f5, .slice A6 R.f6.length c6, .slice A7 R.f7.length c7, .slice A8 R.f8.length c8, .slice A9 R.f9.length c9, .int .i64 R.f10, .int .i64 R.f11, .slice A12 R.f12.length c12, .int .i64 R.f13, .slice A14 R.f14.length c14, .slice A15 R.f15.length c15, .slice A16 R.f16.length c16, .int .i64 R.f17] 30)).alloc (.cells #[.string S.f0, .int .i64 S.f1, .int .i64 S.f2, .int .i64 S.f3, .int .i64 S.f4, .int .i64 S.f5, .slice B6 S.f6.length d6, .slice B7 S.f7.length d7, .slice B8 S.f8.length d8, .slice B9 S.f9.length d9, .int .i64 S.f10, .int .i64 S.f11, .slice B12 S.f12.length d12, .int .i64 S.f13, .slice B14 S.f14.length d14, .slice B15 S.f15.length d15, .slice B16 S.f16.length d16, .int .i64 S.f17] 30) := ⟨_, rfl⟩
  rw [← hw1]
  have BP : Aside0 (w1.heap[g]? = some (.cells #[.string R.f0, .int .i64 R.f1, .int .i64 R.f2, .int .i64 R.f3, .int .i64 R.f4, .int .i64 R.f5, .slice A6 R.f6.length c6, .slice A7 R.f7.length c7, .slice A8 R.f8.length c8, .slice A9 R.f9.length c9, .int .i64 R.f10, .int .i64 R.f11, .slice A12 R.f12.length c12, .int .i64 R.f13, .slice A14 R.f14.length c14, .slice A15 R.f15.length c15, .slice A16 R.f16.length c16, .int .i64 R.f17] 30 (0, 0))) := ⟨by rw [hw1, hg]; exact blk_alloc (heap_alloc_new w _) _⟩
  have BQ : Aside0 (w1.heap[g2]? = some (.cells #[.string S.f0, .int .i64 S.f1, .int .i64 S.f2, .int .i64 S.f3, .int .i64 S.f4, .int .i64 S.f5, .slice B6 S.f6.length d6, .slice B7 S.f7.length d7, .slice B8 S.f8.length d8, .slice B9 S.f9.length d9, .int .i64 S.f10, .int .i64 S.f11, .slice B12 S.f12.length d12, .int .i64 S.f13, .slice B14 S.f14.length d14, .slice B15 S.f15.length d15, .slice B16 S.f16.length d16, .int .i64 S.f17] 30 (0, 0))) := ⟨by rw [hw1, hg2e, show w.heap.size + 1 = (w.alloc (.cells #[.string R.f0, .int .i64 R.f1, .int .i64 R.f2, .int .i64 R.f3, .int .i64 R.f4, .int .i64 R.f5, .slice A6 R.f6.length c6, .slice A7 R.f7.length c7, .slice A8 R.f8.length c8, .slice A9 R.f9.length c9, .int .i64 R.f10, .int .i64 R.f11, .slice A12 R.f12.length c12, .int .i64 R.f13, .slice A14 R.f14.length c14, .slice A15 R.f15.length c15, .slice A16 R.f16.length c16, .int .i64 R.f17] 30)).heap.size from by simp]; exact heap_alloc_new _ _⟩
  have HB : Aside0 (Below w.heap.size w w1) := ⟨by rw [hw1]; exact ((Below.refl _ _).alloc (Nat.le_refl _) _).alloc (by simp) _⟩
  simp only [← hg2e]
  simp only [← hg]
  clear hw1 hg hg2e
  have x0 : w1.cell? ⟨g, 0, none⟩ = some (.string R.f0) := (blk_cell BP.out 0).trans rfl
  have y0 : w1.cell? ⟨g2, 0, none⟩ = some (.string S.f0) := (blk_cell BQ.out 0).trans rfl
  by_cases c : R.f0.toList = S.f0.toList
  case neg =>
    have q : (R.f0.toList == S.f0.toList) = false := by rw [beq_eq_false_iff_ne]; exact c
    go_wp2_with fail
    go_ret
    exact ⟨_, rfl, fun h => absurd (by rw [h]) c, HB.out⟩
  have q : (R.f0.toList == S.f0.toList) = true := by rw [beq_iff_eq]; exact c
  clear c
  go_wp2_with (first | ((with_reducible refine gate_dst (N := 11) rfl ?_); (try (refine gate_guard (by rfl) ?_; dsimp only)); refine Kd.event_run rfl (load_run 30 (.tmp 2) rfl ⟨g, 0, none⟩ (by go_simp) [.string R.f0, .int .i64 R.f1, .int .i64 R.f2, .int .i64 R.f3, .int .i64 R.f4, .int .i64 R.f5, .slice A6 R.f6.length c6, .slice A7 R.f7.length c7, .slice A8 R.f8.length c8, .slice A9 R.f9.length c9, .int .i64 R.f10, .int .i64 R.f11, .slice A12 R.f12.length c12, .int .i64 R.f13, .slice A14 R.f14.length c14, .slice A15 R.f15.length c15, .slice A16 R.f16.length c16, .int .i64 R.f17] (fun w => Tryd.sizeOf30 w) Tryd.isAgg30 (fun j v hj => by rw [Addr.add_lit, Nat.zero_add]; exact (blk_cell BP.out j).trans (by simpa using hj))) ?_) | ((with_reducible refine gate_dst (N := 12) rfl ?_); (try (refine gate_guard (by rfl) ?_; dsimp only)); refine Kd.event_run rfl (load_run 30 (.tmp 3) rfl ⟨g2, 0, none⟩ (by go_simp) [.string S.f0, .int .i64 S.f1, .int .i64 S.f2, .int .i64 S.f3, .int .i64 S.f4, .int .i64 S.f5, .slice B6 S.f6.length d6, .slice B7 S.f7.length d7, .slice B8 S.f8.length d8, .slice B9 S.f9.length d9, .int .i64 S.f10, .int .i64 S.f11, .slice B12 S.f12.length d12, .int .i64 S.f13, .slice B14 S.f14.length d14, .slice B15 S.f15.length d15, .slice B16 S.f16.length d16, .int .i64 S.f17] (fun w => Tryd.sizeOf30 w) Tryd.isAgg30 (fun j v hj => by rw [Addr.add_lit, Nat.zero_add]; exact (blk_cell BQ.out j).trans (by simpa using hj))) ?_))
  refine (same_weak R S _ _ _ (k30.K_below HB.out HR.out) (k30.K_below HB.out HS.out)).mono ?_
  rintro e w2 ⟨b, rfl, hb, hB⟩
  have HW := Aside0.mk hb
  have HB2 := Aside0.mk (HB.out.trans (hB.mono HB.out.size))
  clear hb hB x0 y0 q
  go_wp2_with fail
  go_ret
  exact ⟨_, rfl, HW.out, HB2.out⟩
end Go.Proofs.YtoggkfapdomhgaaDoor.Pr
