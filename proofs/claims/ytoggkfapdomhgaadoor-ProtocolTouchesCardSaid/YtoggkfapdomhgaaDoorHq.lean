/- Weak contracts of Big, bigRule and bigNames: what is not big has short lists. Conditions: each theorem's own premises. -/
import Derived.Test.YtoggkfapdomhgaaDoorHn
namespace Go.Proofs.YtoggkfapdomhgaaDoor.Pr
open Go.RowKit Go.Proofs.YtoggkfapdomhgaaDoorW.PrintWords Go.Proofs.YtoggkfapdomhgaaDoorW.PrintLast Go.Proofs.YtoggkfapdomhgaaDoorW.PrintMore
set_option linter.unusedVariables false
set_option linter.unusedSimpArgs false
set_option maxRecDepth 100000
/-- The rule's lists are short. -/
def ShortR (R : S30) : Prop := R.f6.length ≤ 60 ∧ R.f7.length ≤ 60 ∧ R.f8.length ≤ 60 ∧ R.f9.length ≤ 60 ∧ R.f12.length ≤ 60 ∧ R.f14.length ≤ 60 ∧ R.f15.length ≤ 60 ∧ R.f16.length ≤ 60
def ShortP (P : S27) : Prop := P.f2.length ≤ 60 ∧ P.f3.length ≤ 60 ∧ P.f4.length ≤ 60 ∧ P.f6.length ≤ 60 ∧ P.f7.length ≤ 60 ∧ P.f8.length ≤ 60 ∧ P.f9.length ≤ 30
set_option maxHeartbeats 4000000 in
theorem bigRule_weak (R : S30) (cs : List Value) (w : World) (hR : k30.K w R cs) :
    Calls Tryd.prog 6 #[.agg cs.toArray] w fun e w' => ∃ b : Bool, e = .returned (.bool b) ∧ (b = false → ShortR R) ∧ Below w.heap.size w w' := by
  obtain ⟨A6, c6, A7, c7, A8, c8, A9, c9, A12, c12, A14, c14, A15, c15, A16, c16, rfl, _⟩ := k30_open hR
  clear hR
  go_enter Tryd.func6, Tryd.ntmps6
  go_upto_region 1 with (fail)
  obtain ⟨w1, hw1⟩ : ∃ w1, w1 = w.alloc (.cells #[.string R.f0, .int .i64 R.f1, .int .i64 R.f2, .int .i64 R.f3, .int .i64 R.f4, .int .i64 R.f5, .slice A6 R.f6.length c6, .slice A7 R.f7.length c7, .slice A8 R.f8.length c8, .slice A9 R.f9.length c9, .int .i64 R.f10, .int .i64 R.f11, .slice A12 R.f12.length c12, .int .i64 R.f13, .slice A14 R.f14.length c14, .slice A15 R.f15.length c15, .slice A16 R.f16.length c16, .int .i64 R.f17] 30) := ⟨_, rfl⟩
  rw [← hw1]
  have BP : Aside0 (w1.heap[w.heap.size]? = some (.cells #[.string R.f0, .int .i64 R.f1, .int .i64 R.f2, .int .i64 R.f3, .int .i64 R.f4, .int .i64 R.f5, .slice A6 R.f6.length c6, .slice A7 R.f7.length c7, .slice A8 R.f8.length c8, .slice A9 R.f9.length c9, .int .i64 R.f10, .int .i64 R.f11, .slice A12 R.f12.length c12, .int .i64 R.f13, .slice A14 R.f14.length c14, .slice A15 R.f15.length c15, .slice A16 R.f16.length c16, .int .i64 R.f17] 30 (0, 0))) := ⟨by rw [hw1]; exact heap_alloc_new _ _⟩
  have HB : Aside0 (Below w.heap.size w w1) := ⟨by rw [hw1]; exact (Below.refl _ _).alloc (Nat.le_refl _) _⟩
  clear hw1
  have x0 : w1.cell? ⟨w.heap.size, 0, none⟩ = some (.string R.f0) := (blk_cell BP.out 0).trans rfl
  have x6 : w1.cell? ⟨w.heap.size, 6, none⟩ = some (.slice A6 R.f6.length c6) := (blk_cell BP.out 6).trans rfl
  have x7 : w1.cell? ⟨w.heap.size, 7, none⟩ = some (.slice A7 R.f7.length c7) := (blk_cell BP.out 7).trans rfl
  have x8 : w1.cell? ⟨w.heap.size, 8, none⟩ = some (.slice A8 R.f8.length c8) := (blk_cell BP.out 8).trans rfl
  have x9 : w1.cell? ⟨w.heap.size, 9, none⟩ = some (.slice A9 R.f9.length c9) := (blk_cell BP.out 9).trans rfl
  have x12 : w1.cell? ⟨w.heap.size, 12, none⟩ = some (.slice A12 R.f12.length c12) := (blk_cell BP.out 12).trans rfl
  have x14 : w1.cell? ⟨w.heap.size, 14, none⟩ = some (.slice A14 R.f14.length c14) := (blk_cell BP.out 14).trans rfl
  have x15 : w1.cell? ⟨w.heap.size, 15, none⟩ = some (.slice A15 R.f15.length c15) := (blk_cell BP.out 15).trans rfl
  have x16 : w1.cell? ⟨w.heap.size, 16, none⟩ = some (.slice A16 R.f16.length c16) := (blk_cell BP.out 16).trans rfl
  by_cases c : 500 < R.f0.size
  case pos =>
    have q : decide ((500 : Int) < (R.f0.size : Int)) = true := decide_eq_true (by omega)
    go_wp2_with fail
    go_ret
    exact ⟨true, rfl, fun h => (by cases h), HB.out⟩
  have q0 : decide ((500 : Int) < (R.f0.size : Int)) = false := decide_eq_false (by omega)
  have HC0 := Aside0.mk c
  clear c
  by_cases c : 60 < R.f6.length
  case pos =>
    have q : decide ((60 : Int) < (R.f6.length : Int)) = true := decide_eq_true (by omega)
    go_wp2_with fail
    go_ret
    exact ⟨true, rfl, fun h => (by cases h), HB.out⟩
  have q1 : decide ((60 : Int) < (R.f6.length : Int)) = false := decide_eq_false (by omega)
  have HC1 := Aside0.mk c
  clear c
  by_cases c : 60 < R.f7.length
  case pos =>
    have q : decide ((60 : Int) < (R.f7.length : Int)) = true := decide_eq_true (by omega)
    go_wp2_with fail
    go_ret
    exact ⟨true, rfl, fun h => (by cases h), HB.out⟩
  have q2 : decide ((60 : Int) < (R.f7.length : Int)) = false := decide_eq_false (by omega)
  have HC2 := Aside0.mk c
  clear c
  by_cases c : 60 < R.f8.length
  case pos =>
    have q : decide ((60 : Int) < (R.f8.length : Int)) = true := decide_eq_true (by omega)
    go_wp2_with fail
    go_ret
    exact ⟨true, rfl, fun h => (by cases h), HB.out⟩
  have q3 : decide ((60 : Int) < (R.f8.length : Int)) = false := decide_eq_false (by omega)
  have HC3 := Aside0.mk c
  clear c
  by_cases c : 60 < R.f9.length
  case pos =>
    have q : decide ((60 : Int) < (R.f9.length : Int)) = true := decide_eq_true (by omega)
    go_wp2_with fail
    go_ret
    exact ⟨true, rfl, fun h => (by cases h), HB.out⟩
  have q4 : decide ((60 : Int) < (R.f9.length : Int)) = false := decide_eq_false (by omega)
  have HC4 := Aside0.mk c
  clear c
  by_cases c : 60 < R.f12.length
  case pos =>
    have q : decide ((60 : Int) < (R.f12.length : Int)) = true := decide_eq_true (by omega)
    go_wp2_with fail
    go_ret
    exact ⟨true, rfl, fun h => (by cases h), HB.out⟩
  have q5 : decide ((60 : Int) < (R.f12.length : Int)) = false := decide_eq_false (by omega)
  have HC5 := Aside0.mk c
  clear c
  by_cases c : 60 < R.f14.length
  case pos =>
    have q : decide ((60 : Int) < (R.f14.length : Int)) = true := decide_eq_true (by omega)
    go_wp2_with fail
    go_ret
    exact ⟨true, rfl, fun h => (by cases h), HB.out⟩
  have q6 : decide ((60 : Int) < (R.f14.length : Int)) = false := decide_eq_false (by omega)
  have HC6 := Aside0.mk c
  clear c
  by_cases c : 60 < R.f15.length
  case pos =>
    have q : decide ((60 : Int) < (R.f15.length : Int)) = true := decide_eq_true (by omega)
    go_wp2_with fail
    go_ret
    exact ⟨true, rfl, fun h => (by cases h), HB.out⟩
  have q7 : decide ((60 : Int) < (R.f15.length : Int)) = false := decide_eq_false (by omega)
  have HC7 := Aside0.mk c
  clear c
  by_cases c : 60 < R.f16.length
  case pos =>
    have q : decide ((60 : Int) < (R.f16.length : Int)) = true := decide_eq_true (by omega)
    go_wp2_with fail
    go_ret
    exact ⟨true, rfl, fun h => (by cases h), HB.out⟩
  have q8 : decide ((60 : Int) < (R.f16.length : Int)) = false := decide_eq_false (by omega)
  have HC8 := Aside0.mk c
  clear c
  go_wp2_with fail
  go_ret
  exact ⟨false, rfl, fun _ => ⟨Nat.not_lt.1 HC1.out, Nat.not_lt.1 HC2.out, Nat.not_lt.1 HC3.out, Nat.not_lt.1 HC4.out, Nat.not_lt.1 HC5.out, Nat.not_lt.1 HC6.out, Nat.not_lt.1 HC7.out, Nat.not_lt.1 HC8.out⟩, HB.out⟩
set_option maxHeartbeats 2000000 in
theorem bigNames_weak (A : Option Addr) (c : Nat) (l : List ByteArray) (w : World) (hC : Kd.C Kd.string w A l.length l) : Calls Tryd.prog 11 #[.slice A l.length c] w fun e w' => ∃ b : Bool, e = .returned (.bool b) ∧ w' = w := by
  have HC := Aside0.mk hC
  have hmax := hC.2.1
  clear hC
  go_enter Tryd.func11, Tryd.ntmps11
  go_wp2_with fail
  go_loopw [3] (fun v3 W => ∃ i : Nat, i ≤ l.length ∧ v3 = .int .i64 i ∧ w = W) (fun v3 _ => l.length - (intOf v3).toNat)
  case atStart => exact ⟨0, Nat.zero_le _, rfl, rfl⟩
  case round =>
    obtain ⟨i, hi, rfl, rfl⟩ := hrel
    by_cases hlt : i < l.length
    · obtain ⟨ad, rfl, hx⟩ := at_S HC.out i hlt
      generalize l.getD i ByteArray.empty = x at hx
      by_cases c : (500 : Int) < (x.size : Int)
      · have q : decide ((500 : Int) < (x.size : Int)) = true := decide_eq_true c
        go_wp2_with fail
        go_ret
        exact ⟨_, rfl, rfl⟩
      · have q : decide ((500 : Int) < (x.size : Int)) = false := decide_eq_false c
        go_wp2_with fail
        go_roundw
        case rel => exact ⟨i + 1, by omega, by go_num, by first | rfl | trivial⟩
        case measure => simp [intOf]; omega
    · have hi2 : i = l.length := by omega
      subst hi2
      go_wp2_with fail
      go_ret
      exact ⟨_, rfl, rfl⟩
set_option maxHeartbeats 4000000 in
theorem big_weak (P : S27) (cs : List Value) (w : World) (hP : k27.K w P cs) :
    Calls Tryd.prog 5 #[.agg cs.toArray] w fun e w' => ∃ b : Bool, e = .returned (.bool b) ∧ (b = false → ShortP P ∧ ∀ i, i < P.f9.length → ShortR (P.f9.getD i z30)) ∧ Below w.heap.size w w' := by
  obtain ⟨A2, c2, A3, c3, A4, c4, A6, c6, A7, c7, A8, c8, A9, c9, rfl, _, ga2, _, ga3, _, ga4, _, ga6, _, ga7, _, ga8, _, ga9⟩ := k27_open hP
  have G2 := Aside0.mk ga2
  have G3 := Aside0.mk ga3
  have G4 := Aside0.mk ga4
  have G9 := Aside0.mk ga9
  have hm9 := ga9.2.1
  clear hP ga2 ga3 ga4 ga6 ga7 ga8 ga9
  go_enter Tryd.func5, Tryd.ntmps5
  go_upto_region 1 with (fail)
  obtain ⟨w1, hw1⟩ : ∃ w1, w1 = w.alloc (.cells #[.string P.f0, .int .i64 P.f1, .slice A2 P.f2.length c2, .slice A3 P.f3.length c3, .slice A4 P.f4.length c4, .int .i64 P.f5, .slice A6 P.f6.length c6, .slice A7 P.f7.length c7, .slice A8 P.f8.length c8, .slice A9 P.f9.length c9] 27) := ⟨_, rfl⟩
  rw [← hw1]
  have BP : Aside0 (w1.heap[w.heap.size]? = some (.cells #[.string P.f0, .int .i64 P.f1, .slice A2 P.f2.length c2, .slice A3 P.f3.length c3, .slice A4 P.f4.length c4, .int .i64 P.f5, .slice A6 P.f6.length c6, .slice A7 P.f7.length c7, .slice A8 P.f8.length c8, .slice A9 P.f9.length c9] 27 (0, 0))) := ⟨by rw [hw1]; exact heap_alloc_new _ _⟩
  have HB : Aside0 (Below w.heap.size w w1) := ⟨by rw [hw1]; exact (Below.refl _ _).alloc (Nat.le_refl _) _⟩
  clear hw1
  have x0 : w1.cell? ⟨w.heap.size, 0, none⟩ = some (.string P.f0) := (blk_cell BP.out 0).trans rfl
  have x2 : w1.cell? ⟨w.heap.size, 2, none⟩ = some (.slice A2 P.f2.length c2) := (blk_cell BP.out 2).trans rfl
  have x3 : w1.cell? ⟨w.heap.size, 3, none⟩ = some (.slice A3 P.f3.length c3) := (blk_cell BP.out 3).trans rfl
  have x4 : w1.cell? ⟨w.heap.size, 4, none⟩ = some (.slice A4 P.f4.length c4) := (blk_cell BP.out 4).trans rfl
  have x6 : w1.cell? ⟨w.heap.size, 6, none⟩ = some (.slice A6 P.f6.length c6) := (blk_cell BP.out 6).trans rfl
  have x7 : w1.cell? ⟨w.heap.size, 7, none⟩ = some (.slice A7 P.f7.length c7) := (blk_cell BP.out 7).trans rfl
  have x8 : w1.cell? ⟨w.heap.size, 8, none⟩ = some (.slice A8 P.f8.length c8) := (blk_cell BP.out 8).trans rfl
  have x9 : w1.cell? ⟨w.heap.size, 9, none⟩ = some (.slice A9 P.f9.length c9) := (blk_cell BP.out 9).trans rfl
  go_cut [49] (fun v49 wc => ∃ m : Bool, v49 = .bool m ∧ (m = false → ShortP P) ∧ w1 = wc)
  case first =>
    by_cases c : 500 < P.f0.size
    case pos =>
      have q : decide ((500 : Int) < (P.f0.size : Int)) = true := decide_eq_true (by omega)
      go_wp2_with fail
      go_meet
      exact ⟨true, rfl, fun h => (by cases h), by first | rfl | trivial⟩
    have q0 : decide ((500 : Int) < (P.f0.size : Int)) = false := decide_eq_false (by omega)
    have HC0 := Aside0.mk c
    clear c
    by_cases c : 60 < P.f2.length
    case pos =>
      have q : decide ((60 : Int) < (P.f2.length : Int)) = true := decide_eq_true (by omega)
      go_wp2_with fail
      go_meet
      exact ⟨true, rfl, fun h => (by cases h), by first | rfl | trivial⟩
    have q1 : decide ((60 : Int) < (P.f2.length : Int)) = false := decide_eq_false (by omega)
    have HC1 := Aside0.mk c
    clear c
    by_cases c : 60 < P.f3.length
    case pos =>
      have q : decide ((60 : Int) < (P.f3.length : Int)) = true := decide_eq_true (by omega)
      go_wp2_with fail
      go_meet
      exact ⟨true, rfl, fun h => (by cases h), by first | rfl | trivial⟩
    have q2 : decide ((60 : Int) < (P.f3.length : Int)) = false := decide_eq_false (by omega)
    have HC2 := Aside0.mk c
    clear c
    by_cases c : 60 < P.f4.length
    case pos =>
      have q : decide ((60 : Int) < (P.f4.length : Int)) = true := decide_eq_true (by omega)
      go_wp2_with fail
      go_meet
      exact ⟨true, rfl, fun h => (by cases h), by first | rfl | trivial⟩
    have q3 : decide ((60 : Int) < (P.f4.length : Int)) = false := decide_eq_false (by omega)
    have HC3 := Aside0.mk c
    clear c
    by_cases c : 60 < P.f6.length
    case pos =>
      have q : decide ((60 : Int) < (P.f6.length : Int)) = true := decide_eq_true (by omega)
      go_wp2_with fail
      go_meet
      exact ⟨true, rfl, fun h => (by cases h), by first | rfl | trivial⟩
    have q4 : decide ((60 : Int) < (P.f6.length : Int)) = false := decide_eq_false (by omega)
    have HC4 := Aside0.mk c
    clear c
    by_cases c : 60 < P.f7.length
    case pos =>
      have q : decide ((60 : Int) < (P.f7.length : Int)) = true := decide_eq_true (by omega)
      go_wp2_with fail
      go_meet
      exact ⟨true, rfl, fun h => (by cases h), by first | rfl | trivial⟩
    have q5 : decide ((60 : Int) < (P.f7.length : Int)) = false := decide_eq_false (by omega)
    have HC5 := Aside0.mk c
    clear c
    by_cases c : 60 < P.f8.length
    case pos =>
      have q : decide ((60 : Int) < (P.f8.length : Int)) = true := decide_eq_true (by omega)
      go_wp2_with fail
      go_meet
      exact ⟨true, rfl, fun h => (by cases h), by first | rfl | trivial⟩
    have q6 : decide ((60 : Int) < (P.f8.length : Int)) = false := decide_eq_false (by omega)
    have HC6 := Aside0.mk c
    clear c
    by_cases c : 30 < P.f9.length
    case pos =>
      have q : decide ((30 : Int) < (P.f9.length : Int)) = true := decide_eq_true (by omega)
      go_wp2_with fail
      go_meet
      exact ⟨true, rfl, fun h => (by cases h), by first | rfl | trivial⟩
    have q7 : decide ((30 : Int) < (P.f9.length : Int)) = false := decide_eq_false (by omega)
    have HC7 := Aside0.mk c
    clear c
    go_wp2_with fail
    go_meet
    exact ⟨false, rfl, fun _ => ⟨Nat.not_lt.1 HC1.out, Nat.not_lt.1 HC2.out, Nat.not_lt.1 HC3.out, Nat.not_lt.1 HC4.out, Nat.not_lt.1 HC5.out, Nat.not_lt.1 HC6.out, Nat.not_lt.1 HC7.out⟩, by first | rfl | trivial⟩
  case rest =>
  obtain ⟨m, rfl, hm, rfl⟩ := hcut
  have HM := Aside0.mk hm
  clear hm x0 x2 x3 x4 x6 x7 x8 x9
  cases m
  case true =>
    go_wp2_with fail
    go_ret
    exact ⟨true, rfl, fun h => (by cases h), HB.out⟩
  go_wp2_with fail
  go_loopw [3] (fun v3 W => ∃ i : Nat, i ≤ P.f9.length ∧ v3 = .int .i64 i ∧ Aside0 (∀ j, j < i → ShortR (P.f9.getD j z30)) ∧ Aside0 (Below w1.heap.size w1 W)) (fun v3 _ => P.f9.length - (intOf v3).toNat)
  case atStart => exact ⟨0, Nat.zero_le _, rfl, ⟨fun j hj => by omega⟩, ⟨Below.refl _ _⟩⟩
  case round =>
    obtain ⟨i, hi, rfl, HS, HBr⟩ := hrel
    have BPr := Aside0.mk (blk_below BP.out HBr.out)
    have HBw := Aside0.mk (HB.out.trans (HBr.out.mono HB.out.size))
    by_cases hlt : i < P.f9.length
    · obtain ⟨ad, cs, rfl, hK, hn, hc⟩ := at_rule (Kd.C_below G9.out HBw.out) i hlt
      have HK := Aside0.mk hK
      have HX := Aside0.mk hc
      have hs30 : ∀ w, (Go.sizeOf 30).run Tryd.prog w = .ok cs.length w := fun w => by rw [hn]; exact Tryd.sizeOf30 w
      have HS30 := Aside0.mk hs30
      have x9 : wr.cell? ⟨w.heap.size, 9, none⟩ = some (.slice (some ad) P.f9.length c9) := (blk_cell BPr.out 9).trans rfl
      clear hK hc hs30
      go_wp2_with ((with_reducible refine gate_dst (N := 61) rfl ?_); refine Kd.event_run rfl (load_run 30 (.tmp 60) rfl (ad.add (i * 18)) (by go_simp) cs HS30.out Tryd.isAgg30 HX.out) ?_)
      refine (bigRule_weak (P.f9.getD i z30) cs wr HK.out).mono ?_
      rintro e w2 ⟨b, rfl, hb, hB⟩
      have HW := Aside0.mk hb
      have HB2 := Aside0.mk (HBr.out.trans (hB.mono HBr.out.size))
      clear hb hB x9
      cases b
      · go_wp2_with fail
        go_roundw
        case rel => exact ⟨i + 1, by omega, by go_num, ⟨fun j hj => by rcases Nat.lt_or_eq_of_le (Nat.le_of_lt_succ hj) with h | rfl; exact HS.out j h; exact HW.out (by first | rfl | trivial)⟩, HB2⟩
        case measure => simp [intOf]; omega
      · go_wp2_with fail
        go_ret
        exact ⟨true, rfl, fun h => (by cases h), HB.out.trans (HB2.out.mono HB.out.size)⟩
    · have hi2 : i = P.f9.length := by omega
      subst hi2
      have x9 : wr.cell? ⟨w.heap.size, 9, none⟩ = some (.slice A9 P.f9.length c9) := (blk_cell BPr.out 9).trans rfl
      have x2 : wr.cell? ⟨w.heap.size, 2, none⟩ = some (.slice A2 P.f2.length c2) := (blk_cell BPr.out 2).trans rfl
      have x3 : wr.cell? ⟨w.heap.size, 3, none⟩ = some (.slice A3 P.f3.length c3) := (blk_cell BPr.out 3).trans rfl
      have x4 : wr.cell? ⟨w.heap.size, 4, none⟩ = some (.slice A4 P.f4.length c4) := (blk_cell BPr.out 4).trans rfl
      go_wp2_with fail
      refine (bigNames_weak A2 c2 P.f2 wr (Kd.C_below G2.out HBw.out)).mono ?_
      rintro e w' ⟨b, rfl, rfl⟩
      cases b
      case true =>
        go_wp2_with fail
        go_ret
        exact ⟨true, rfl, fun h => (by cases h), HBw.out⟩
      go_wp2_with fail
      refine (bigNames_weak A3 c3 P.f3 _ (Kd.C_below G3.out HBw.out)).mono ?_
      rintro e w2 ⟨b, rfl, rfl⟩
      cases b
      case true =>
        go_wp2_with fail
        go_ret
        exact ⟨true, rfl, fun h => (by cases h), HBw.out⟩
      go_wp2_with fail
      refine (bigNames_weak A4 c4 P.f4 _ (Kd.C_below G4.out HBw.out)).mono ?_
      rintro e w3 ⟨b, rfl, rfl⟩
      go_wp2_with fail
      go_ret
      exact ⟨b, rfl, fun _ => ⟨HM.out (by first | rfl | trivial), HS.out⟩, HBw.out⟩
end Go.Proofs.YtoggkfapdomhgaaDoor.Pr
