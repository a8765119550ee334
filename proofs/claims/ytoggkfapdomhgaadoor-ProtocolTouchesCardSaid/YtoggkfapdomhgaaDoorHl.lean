/- Contract of Validate; conditions: each theorem's own premises. -/
import Derived.Test.YtoggkfapdomhgaaDoorHj
namespace Go.Proofs.YtoggkfapdomhgaaDoor.Pr
open Go.RowKit Go.Proofs.YtoggkfapdomhgaaDoorW.PrintWords Go.Proofs.YtoggkfapdomhgaaDoorW.PrintLast Go.Proofs.YtoggkfapdomhgaaDoorW.PrintMore
set_option linter.unusedVariables false
set_option linter.unusedSimpArgs false
set_option maxRecDepth 100000
def argB (P : S27) : Bool := decide (P.f1 < 1) || decide (4 < P.f1) || decide (P.f5 < 0) || decide (3 < P.f5)
def bigB (P : S27) : Bool := decide ((6 : Int) < P.f2.length) || decide ((3 : Int) < P.f3.length) || decide ((3 : Int) < P.f4.length) || decide ((4 : Int) < P.f6.length) || decide ((8 : Int) < P.f9.length)
def useB (P : S27) : Bool := (!(P.f1 == 1) && (decide ((0 : Int) < P.f3.length) || decide ((0 : Int) < P.f4.length) || decide ((0 : Int) < P.f6.length) || P.f5 != 0)) || (P.f1 == 1 && decide ((0 : Int) < P.f8.length))
def resB (l : List S48) : Int := scan (fun i => whenE (!bndE (l.getD i z48)) 4) l.length 0
def setsE (P : S27) : Int := firstE [setE P.f7 P.f2.length, whenE ((P.f7.length : Int) == 0) 1, setE P.f8 P.f2.length]
def rulesE (P : S27) : Int := scan (ruleE P) P.f9.length 0
def valB (P : S27) : Int :=
  if argB P = true then 1
  else if (P.f2.length : Int) = 0 then 1
  else if bigB P = true then 4
  else if namesE (P.f2 ++ P.f3 ++ P.f4) = 0 then
    if useB P = true then 1
    else if resB P.f6 = 0 then
      if setsE P = 0 then
        if rulesE P = 0 then whenE (decide ((3 : Int) < (thrE P.f9).length)) 4 else rulesE P
      else setsE P
    else resB P.f6
  else namesE (P.f2 ++ P.f3 ++ P.f4)
def validE (P : S27) : Int := if validB P.f0 = true then valB P else 2
def Small (P : S27) : Prop := (∀ i, i < P.f9.length → ruleSum (P.f9.getD i z30) ≤ 1000000) ∧ thrSum P.f9 ≤ 1000000
def validate.T22 : Bool × List (List Nat × List Nat) := (true, [([], []), ([0], [0]), ([], []), ([1, 2], [1, 2]), ([], []), ([4], [4]), ([5], [5]), ([6], [6]), ([7, 3], [7]), ([], []), ([9], [9]), ([], []), ([10, 11, 8], [10, 11]), ([3, 8, 12], [3, 8, 12]), ([13, 12], [13]), ([14, 14, 0, 1, 2, 3, 4, 5, 6, 7, 8, 9, 10, 11, 12, 13, 14], [14])])
def validate.B22 : List Nat := [0, 1, 0, 7, 0, 16, 48, 112, 255, 0, 512, 0, 4095, 8191, 16383, 32767]
theorem validate.tab22 : rtab .any (opsOf Tryd.f14 22) = validate.T22 := by kernel_rfl
theorem validate.bits22 : waitsOk validate.T22.2 validate.B22 = true := by kernel_rfl
set_option maxHeartbeats 8000000 in
theorem valid_any (P : S27) (cs : List Value) (w : World) (hG : Glob w) (hP : k27.K w P cs) (hS : Small P) :
    Calls Tryd.prog 14 #[.agg cs.toArray] w fun e w' => e = .returned (.int .i64 (validE P)) ∧ Below w.heap.size w w' := by
  have HP := Aside0.mk hP
  obtain ⟨B2, d2, B3, d3, B4, d4, B6, d6, B7, d7, B8, d8, B9, d9, rfl, l2, _, l3, _, l4, _, l6, g6, l7, g7, l8, g8, l9, g9⟩ := k27_open hP
  have HG := Aside0.mk hG
  have G6 := Aside0.mk g6
  have G7 := Aside0.mk g7
  have G8 := Aside0.mk g8
  have hm6 := g6.2.1
  have hm9 := g9.2.1
  have HS := Aside0.mk hS
  obtain ⟨r, hr⟩ : ∃ r, validE P = r := ⟨_, rfl⟩
  have HRR := Aside0.mk hr
  unfold validE at hr
  have HE := Aside0.mk hr
  clear hr hG hP g6 g7 g8 g9 hS
  go_enter Tryd.func14, Tryd.ntmps14
  go_upto_region 1 with (fail)
  obtain ⟨w1, hw1⟩ : ∃ w1, w1 = w.alloc (.cells #[.string P.f0, .int .i64 P.f1, .slice B2 P.f2.length d2, .slice B3 P.f3.length d3, .slice B4 P.f4.length d4, .int .i64 P.f5, .slice B6 P.f6.length d6, .slice B7 P.f7.length d7, .slice B8 P.f8.length d8, .slice B9 P.f9.length d9] 27) := ⟨_, rfl⟩
  rw [← hw1]
  have BP : Aside0 (w1.heap[w.heap.size]? = some (.cells #[.string P.f0, .int .i64 P.f1, .slice B2 P.f2.length d2, .slice B3 P.f3.length d3, .slice B4 P.f4.length d4, .int .i64 P.f5, .slice B6 P.f6.length d6, .slice B7 P.f7.length d7, .slice B8 P.f8.length d8, .slice B9 P.f9.length d9] 27 (0, 0))) := ⟨by rw [hw1]; exact heap_alloc_new _ _⟩
  have HB : Aside0 (Below w.heap.size w w1) := ⟨by rw [hw1]; exact (Below.refl _ _).alloc (Nat.le_refl _) _⟩
  clear hw1
  have p0 : w1.cell? ⟨w.heap.size, 0, none⟩ = some (.string P.f0) := (blk_cell BP.out 0).trans rfl
  have p1 : w1.cell? ⟨w.heap.size, 1, none⟩ = some (.int .i64 P.f1) := (blk_cell BP.out 1).trans rfl
  have p2 : w1.cell? ⟨w.heap.size, 2, none⟩ = some (.slice B2 P.f2.length d2) := (blk_cell BP.out 2).trans rfl
  go_wp2_with fail
  refine (protocol_ValidName.calls P.f0 (validB P.f0) w1 (Glob_below HG.out HB.out) rfl).mono ?_
  rintro e w2 ⟨rfl, hB⟩
  clear p0 p1 p2
  have n0_ := Aside0.mk (blk_below BP.out hB)
  have n2_ := Aside0.mk (HB.out.trans (Below.mono hB HB.out.size))
  clear BP HB
  have BP := n0_
  have HB := n2_
  clear n0_ n2_
  clear hB
  have hz1 : ∃ z, z = (P.f1 == 1) := ⟨_, rfl⟩
  obtain ⟨z1, hz1⟩ := hz1
  rw [← hz1]
  have HZ1 := Aside0.mk hz1
  clear hz1
  cases hv : validB P.f0 with
  | false =>
    rw [hv] at HE
    go_wp2_with fail
    go_ret
    exact ⟨by rw [HRR.out, ← HE.out]; rfl, HB.out⟩
  | true =>
  rw [hv, if_pos rfl] at HE
  unfold valB at HE
  clear hv
  go_upto_region 5 with (fail)
  have p1 : w2.cell? ⟨w.heap.size, 1, none⟩ = some (.int .i64 P.f1) := (blk_cell BP.out 1).trans rfl
  have p5 : w2.cell? ⟨w.heap.size, 5, none⟩ = some (.int .i64 P.f5) := (blk_cell BP.out 5).trans rfl
  go_cut [22] (fun v22 wc => ∃ m : Bool, v22 = .bool m ∧ m = argB P ∧ w2 = wc)
  case first =>
    by_cases c : P.f1 < 1
    · have q0 : decide (P.f1 < 1) = true := decide_eq_true c
      go_wp2_with fail
      go_meet
      exact ⟨_, rfl, by unfold argB; simp only [q0, Bool.or_true, Bool.true_or, Bool.not_true, Bool.not_false, Bool.true_and, Bool.false_and, Bool.false_or, Bool.or_false], by first | rfl | trivial⟩
    have q0 : decide (P.f1 < 1) = false := decide_eq_false c
    clear c
    by_cases c : 4 < P.f1
    · have q1 : decide (4 < P.f1) = true := decide_eq_true c
      go_wp2_with fail
      go_meet
      exact ⟨_, rfl, by unfold argB; simp only [q0, q1, Bool.or_true, Bool.true_or, Bool.not_true, Bool.not_false, Bool.true_and, Bool.false_and, Bool.false_or, Bool.or_false], by first | rfl | trivial⟩
    have q1 : decide (4 < P.f1) = false := decide_eq_false c
    clear c
    by_cases c : P.f5 < 0
    · have q2 : decide (P.f5 < 0) = true := decide_eq_true c
      go_wp2_with fail
      go_meet
      exact ⟨_, rfl, by unfold argB; simp only [q0, q1, q2, Bool.or_true, Bool.true_or, Bool.not_true, Bool.not_false, Bool.true_and, Bool.false_and, Bool.false_or, Bool.or_false], by first | rfl | trivial⟩
    have q2 : decide (P.f5 < 0) = false := decide_eq_false c
    clear c
    by_cases c : 3 < P.f5
    · have q3 : decide (3 < P.f5) = true := decide_eq_true c
      go_wp2_with fail
      go_meet
      exact ⟨_, rfl, by unfold argB; simp only [q0, q1, q2, q3, Bool.or_true, Bool.true_or, Bool.not_true, Bool.not_false, Bool.true_and, Bool.false_and, Bool.false_or, Bool.or_false], by first | rfl | trivial⟩
    have q3 : decide (3 < P.f5) = false := decide_eq_false c
    clear c
    go_wp2_with fail
    go_meet
    exact ⟨_, rfl, by unfold argB; simp only [q0, q1, q2, q3, Bool.or_true, Bool.true_or, Bool.not_true, Bool.not_false, Bool.true_and, Bool.false_and, Bool.false_or, Bool.or_false], by first | rfl | trivial⟩
  case rest =>
  obtain ⟨m, rfl, hm, rfl⟩ := hcut
  rw [← hm] at HE
  clear hm p1 p5
  cases m with
  | true =>
    go_wp2_with fail
    go_ret
    exact ⟨by rw [HRR.out, ← HE.out]; rfl, HB.out⟩
  | false =>
  rw [if_neg (by decide)] at HE
  by_cases c0 : (P.f2.length : Int) = 0
  · have q0 : ((P.f2.length : Int) == 0) = true := beq_iff_eq.mpr c0
    rw [if_pos c0] at HE
    clear c0
    go_wp2_with fail
    go_ret
    exact ⟨by rw [HRR.out, ← HE.out]; rfl, HB.out⟩
  have q0 : ((P.f2.length : Int) == 0) = false := beq_eq_false_iff_ne.mpr c0
  rw [if_neg c0] at HE
  go_upto_region 9 with (fail)
  have p3 : w2.cell? ⟨w.heap.size, 3, none⟩ = some (.slice B3 P.f3.length d3) := (blk_cell BP.out 3).trans rfl
  have p4 : w2.cell? ⟨w.heap.size, 4, none⟩ = some (.slice B4 P.f4.length d4) := (blk_cell BP.out 4).trans rfl
  have p6 : w2.cell? ⟨w.heap.size, 6, none⟩ = some (.slice B6 P.f6.length d6) := (blk_cell BP.out 6).trans rfl
  have p9 : w2.cell? ⟨w.heap.size, 9, none⟩ = some (.slice B9 P.f9.length d9) := (blk_cell BP.out 9).trans rfl
  go_cut [44] (fun v44 wc => ∃ m : Bool, v44 = .bool m ∧ m = bigB P ∧ w2 = wc)
  case first =>
    by_cases c : (6 : Int) < P.f2.length
    · have q0 : decide ((6 : Int) < P.f2.length) = true := decide_eq_true c
      go_wp2_with fail
      go_meet
      exact ⟨_, rfl, by unfold bigB; simp only [q0, Bool.or_true, Bool.true_or, Bool.not_true, Bool.not_false, Bool.true_and, Bool.false_and, Bool.false_or, Bool.or_false], by first | rfl | trivial⟩
    have q0 : decide ((6 : Int) < P.f2.length) = false := decide_eq_false c
    clear c
    by_cases c : (3 : Int) < P.f3.length
    · have q1 : decide ((3 : Int) < P.f3.length) = true := decide_eq_true c
      go_wp2_with fail
      go_meet
      exact ⟨_, rfl, by unfold bigB; simp only [q0, q1, Bool.or_true, Bool.true_or, Bool.not_true, Bool.not_false, Bool.true_and, Bool.false_and, Bool.false_or, Bool.or_false], by first | rfl | trivial⟩
    have q1 : decide ((3 : Int) < P.f3.length) = false := decide_eq_false c
    clear c
    by_cases c : (3 : Int) < P.f4.length
    · have q2 : decide ((3 : Int) < P.f4.length) = true := decide_eq_true c
      go_wp2_with fail
      go_meet
      exact ⟨_, rfl, by unfold bigB; simp only [q0, q1, q2, Bool.or_true, Bool.true_or, Bool.not_true, Bool.not_false, Bool.true_and, Bool.false_and, Bool.false_or, Bool.or_false], by first | rfl | trivial⟩
    have q2 : decide ((3 : Int) < P.f4.length) = false := decide_eq_false c
    clear c
    by_cases c : (4 : Int) < P.f6.length
    · have q3 : decide ((4 : Int) < P.f6.length) = true := decide_eq_true c
      go_wp2_with fail
      go_meet
      exact ⟨_, rfl, by unfold bigB; simp only [q0, q1, q2, q3, Bool.or_true, Bool.true_or, Bool.not_true, Bool.not_false, Bool.true_and, Bool.false_and, Bool.false_or, Bool.or_false], by first | rfl | trivial⟩
    have q3 : decide ((4 : Int) < P.f6.length) = false := decide_eq_false c
    clear c
    by_cases c : (8 : Int) < P.f9.length
    · have q4 : decide ((8 : Int) < P.f9.length) = true := decide_eq_true c
      go_wp2_with fail
      go_meet
      exact ⟨_, rfl, by unfold bigB; simp only [q0, q1, q2, q3, q4, Bool.or_true, Bool.true_or, Bool.not_true, Bool.not_false, Bool.true_and, Bool.false_and, Bool.false_or, Bool.or_false], by first | rfl | trivial⟩
    have q4 : decide ((8 : Int) < P.f9.length) = false := decide_eq_false c
    clear c
    go_wp2_with fail
    go_meet
    exact ⟨_, rfl, by unfold bigB; simp only [q0, q1, q2, q3, q4, Bool.or_true, Bool.true_or, Bool.not_true, Bool.not_false, Bool.true_and, Bool.false_and, Bool.false_or, Bool.or_false], by first | rfl | trivial⟩
  case rest =>
  obtain ⟨m, rfl, hm, rfl⟩ := hcut
  rw [← hm] at HE
  have HM := Aside0.mk hm
  clear hm p3 p4 p6 p9
  cases m with
  | true =>
    go_wp2_with fail
    go_ret
    exact ⟨by rw [HRR.out, ← HE.out]; rfl, HB.out⟩
  | false =>
  rw [if_neg (by decide)] at HE
  have hl12 : (P.f2 ++ P.f3 ++ P.f4).length ≤ 1000 := by
    have h := HM.out
    unfold bigB at h
    simp only [Bool.false_eq, Bool.or_eq_false_iff, decide_eq_false_iff_not] at h
    rw [List.length_append, List.length_append]
    omega
  go_wp2_with ((with_reducible refine gate_dst (N := 71) rfl ?_); refine Kd.event_run rfl (load_run 27 (.tmp 1) rfl ⟨w.heap.size, 0, none⟩ (by go_simp) [.string P.f0, .int .i64 P.f1, .slice B2 P.f2.length d2, .slice B3 P.f3.length d3, .slice B4 P.f4.length d4, .int .i64 P.f5, .slice B6 P.f6.length d6, .slice B7 P.f7.length d7, .slice B8 P.f8.length d8, .slice B9 P.f9.length d9] (fun w => Tryd.sizeOf27 w) Tryd.isAgg27 (fun j v hj => by rw [Addr.add_lit, Nat.zero_add]; exact (blk_cell BP.out j).trans (by simpa using hj))) ?_)
  refine (names_any P [.string P.f0, .int .i64 P.f1, .slice B2 P.f2.length d2, .slice B3 P.f3.length d3, .slice B4 P.f4.length d4, .int .i64 P.f5, .slice B6 P.f6.length d6, .slice B7 P.f7.length d7, .slice B8 P.f8.length d8, .slice B9 P.f9.length d9] _ (Glob_below HG.out HB.out) (k27.K_below HB.out HP.out) hl12).mono ?_
  rintro e w3 ⟨rfl, hB⟩
  have n0_ := Aside0.mk (blk_below BP.out hB)
  have n2_ := Aside0.mk (HB.out.trans (Below.mono hB HB.out.size))
  clear BP HB
  have BP := n0_
  have HB := n2_
  clear n0_ n2_
  clear hB hl12
  have HE2 := HE.out
  clear HE
  obtain ⟨q, hq⟩ : ∃ q, q = namesE (P.f2 ++ P.f3 ++ P.f4) := ⟨_, rfl⟩
  rw [← hq] at HE2 ⊢
  clear hq
  by_cases h0 : q = 0
  case neg =>
    have d0 : (q != 0) = true := bne_iff_ne.mpr h0
    rw [if_neg h0] at HE2
    have HE := Aside0.mk HE2
    clear HE2
    go_wp2_with fail
    go_ret
    exact ⟨by rw [HRR.out, ← HE.out]; rfl, HB.out⟩
  have d0 : (q != 0) = false := bne_eq_false_iff_eq.mpr h0
  rw [if_pos h0] at HE2
  have HE := Aside0.mk HE2
  clear HE2 h0
  go_upto_region 14 with (fail)
  obtain ⟨n3, hn3⟩ : ∃ n, n = P.f3.length := ⟨_, rfl⟩
  have p3 : w3.cell? ⟨w.heap.size, 3, none⟩ = some (.slice B3 n3 d3) := by rw [hn3]; exact (blk_cell BP.out 3).trans rfl
  have HN3 := Aside0.mk hn3
  clear hn3
  obtain ⟨n4, hn4⟩ : ∃ n, n = P.f4.length := ⟨_, rfl⟩
  have p4 : w3.cell? ⟨w.heap.size, 4, none⟩ = some (.slice B4 n4 d4) := by rw [hn4]; exact (blk_cell BP.out 4).trans rfl
  have HN4 := Aside0.mk hn4
  clear hn4
  obtain ⟨n6, hn6⟩ : ∃ n, n = P.f6.length := ⟨_, rfl⟩
  have p6 : w3.cell? ⟨w.heap.size, 6, none⟩ = some (.slice B6 n6 d6) := by rw [hn6]; exact (blk_cell BP.out 6).trans rfl
  have HN6 := Aside0.mk hn6
  clear hn6
  obtain ⟨n8, hn8⟩ : ∃ n, n = P.f8.length := ⟨_, rfl⟩
  have p8 : w3.cell? ⟨w.heap.size, 8, none⟩ = some (.slice B8 n8 d8) := by rw [hn8]; exact (blk_cell BP.out 8).trans rfl
  have HN8 := Aside0.mk hn8
  clear hn8
  obtain ⟨t5, ht5⟩ : ∃ n, n = P.f5 := ⟨_, rfl⟩
  have p5 : w3.cell? ⟨w.heap.size, 5, none⟩ = some (.int .i64 t5) := by rw [ht5]; exact (blk_cell BP.out 5).trans rfl
  have HT5 := Aside0.mk ht5
  clear ht5
  go_cut [109] (fun v109 wc => ∃ m : Bool, v109 = .bool m ∧ m = ((!z1 && (decide ((0 : Int) < n3) || decide ((0 : Int) < n4) || decide ((0 : Int) < n6) || t5 != 0)) || (z1 && decide ((0 : Int) < n8))) ∧ w3 = wc)
  case first =>
    cases z1
    · rcases Nat.eq_zero_or_pos n3 with rfl | c
      case inr =>
        have q : decide ((0 : Int) < (n3 : Int)) = true := decide_eq_true (by omega)
        go_wp2_with fail
        go_meet
        exact ⟨_, rfl, by simp [c], by first | rfl | trivial⟩
      rcases Nat.eq_zero_or_pos n4 with rfl | c
      case inr =>
        have q : decide ((0 : Int) < (n4 : Int)) = true := decide_eq_true (by omega)
        go_wp2_with fail
        go_meet
        exact ⟨_, rfl, by simp [c], by first | rfl | trivial⟩
      rcases Nat.eq_zero_or_pos n6 with rfl | c
      case inr =>
        have q : decide ((0 : Int) < (n6 : Int)) = true := decide_eq_true (by omega)
        go_wp2_with fail
        go_meet
        exact ⟨_, rfl, by simp [c], by first | rfl | trivial⟩
      by_cases c : t5 = 0
      case neg =>
        have q : (t5 != 0) = true := bne_iff_ne.mpr c
        go_wp2_with fail
        go_meet
        exact ⟨_, rfl, by simp [c], by first | rfl | trivial⟩
      subst c
      go_wp2_with fail
      go_meet
      exact ⟨_, rfl, by simp, by first | rfl | trivial⟩
    · rcases Nat.eq_zero_or_pos n8 with rfl | c
      case inr =>
        have q : decide ((0 : Int) < (n8 : Int)) = true := decide_eq_true (by omega)
        go_wp2_with fail
        go_meet
        exact ⟨_, rfl, by simp [c], by first | rfl | trivial⟩
      go_wp2_with fail
      go_meet
      exact ⟨_, rfl, by simp, by first | rfl | trivial⟩
  case rest =>
  obtain ⟨m, rfl, hm, rfl⟩ := hcut
  rw [HZ1.out, HN3.out, HN4.out, HN6.out, HN8.out, HT5.out, show ((!(P.f1 == 1) && (decide ((0 : Int) < P.f3.length) || decide ((0 : Int) < P.f4.length) || decide ((0 : Int) < P.f6.length) || P.f5 != 0)) || (P.f1 == 1 && decide ((0 : Int) < P.f8.length))) = useB P from rfl] at hm
  rw [← hm] at HE
  clear hm p3 p4 p5 p6 p8
  cases m with
  | true =>
    go_wp2_with fail
    go_ret
    exact ⟨by rw [HRR.out, ← HE.out]; rfl, HB.out⟩
  | false =>
  rw [if_neg (by decide)] at HE
  have p6 : w3.cell? ⟨w.heap.size, 6, none⟩ = some (.slice B6 P.f6.length d6) := (blk_cell BP.out 6).trans rfl
  go_wp2_with fail
  clear p6
  go_loopw [113] (fun v113 W => ∃ i : Nat, i ≤ P.f6.length ∧ v113 = .int .i64 i ∧ Aside0 (scan (fun i => whenE (!bndE (P.f6.getD i z48)) 4) (P.f6.length - i) i = resB P.f6) ∧ Aside0 (Below w3.heap.size w3 W)) (fun v113 _ => P.f6.length - (intOf v113).toNat)
  case atStart => exact ⟨0, Nat.zero_le _, rfl, ⟨rfl⟩, ⟨Below.refl _ _⟩⟩
  case round =>
    obtain ⟨i, hi, rfl, HEr, HBr⟩ := hrel
    by_cases hlt : i < P.f6.length
    · obtain ⟨ad, rfl, x0, x1, x2, x3⟩ := at_T48 (Kd.C_below (Kd.C_below G6.out HB.out) HBr.out) (i : Int) (by omega) (by omega)
      simp only [rd_T48, Int.toNat_natCast] at x0 x1 x2 x3
      obtain ⟨b, hb⟩ : ∃ b, P.f6.length - i = b + 1 := ⟨P.f6.length - i - 1, by omega⟩
      have HE2 := HEr.out
      rw [hb] at HE2
      obtain ⟨hz, hn⟩ := scan_step HE2
      generalize P.f6.getD i z48 = L at x0 x1 x2 x3 hz hn
      clear HEr HE2
      go_wp2_with fail
      refine (bnd_b L _).mono ?_
      rintro e w' ⟨rfl, hB⟩
      have HBn := Aside0.mk (HBr.out.trans ((((Below.refl wr.heap.size wr).alloc (Nat.le_refl _) _).trans (hB.mono (by simp))).mono HBr.out.size))
      clear hB x0 x1 x2 x3 HBr
      cases hv : bndE L with
      | false =>
        rw [hv] at hz hn
        have h4 := hn (by decide)
        clear hz hn
        have HE2 := HE.out
        rw [if_neg (by rw [← h4]; decide), ← h4] at HE2
        have HE := Aside0.mk HE2
        clear HE2 h4
        go_wp2_with fail
        go_ret
        exact ⟨by rw [HRR.out, ← HE.out]; rfl, HB.out.trans (HBn.out.mono HB.out.size)⟩
      | true =>
        rw [hv] at hz hn
        have HEn := Aside0.mk (hz rfl)
        clear hz hn
        go_wp2_with fail
        go_roundw
        case rel => exact ⟨i + 1, by omega, by go_num, ⟨by rw [show P.f6.length - (i + 1) = b by omega]; exact HEn.out⟩, HBn⟩
        case measure => simp [intOf]; omega
    · have hi2 : i = P.f6.length := by omega
      subst hi2
      rw [Nat.sub_self] at HEr
      have HE2 := HE.out
      rw [if_pos (show resB P.f6 = 0 by rw [← HEr.out]; rfl)] at HE2
      clear HEr HE
      go_upto_region 22 with (fail)
      obtain ⟨w4, hw4⟩ : ∃ w4, w4 = wr := ⟨_, rfl⟩
      rw [← hw4] at HBr ⊢
      clear hw4
      have BP4 := Aside0.mk (blk_below BP.out HBr.out)
      have HB4 := Aside0.mk (HB.out.trans (HBr.out.mono HB.out.size))
      clear BP HB HBr
      have BP := Aside0.mk (blk_drew BP4.out)
      have HB := Aside0.mk (below_drew1 HB4.out)
      clear BP4 HB4
      refine start_ (n := 16) (S := fun w' => w'.cell? ⟨w.heap.size, 7, none⟩ = some (.slice B7 P.f7.length d7) ∧ w'.cell? ⟨w.heap.size, 8, none⟩ = some (.slice B8 P.f8.length d8)) (ds := []) #[false, false, false, false, false, false, false, false, false, false, false, false, false, false, false, false] (by kernel_rfl) rfl rfl ⟨(blk_cell BP.out 7).trans rfl, (blk_cell BP.out 8).trans rfl⟩ (fun hHeld => ?_)
      refine with_tabW validate.tab22 validate.bits22 (fun HT_ HW_ => ?_)
      refine pure_ (i := 0) (N := some 121) (v := ?_) (a' := ?_) #[true, false, false, false, false, false, false, false, false, false, false, false, false, false, false, false] rfl rfl (any_of HT_.out (by kernel_rfl)) (fun _ _ _ h => h) (Or.inl ⟨by rfl, ?_⟩) ?_ ?_
      rotate_left
      · intro w'
        go_simp
        with_reducible rfl
      rotate_left
      · simp only [Act.put, List.setIfInBounds_toArray, List.set_cons_zero, List.set_cons_succ, i64_w, i32_w]
        rfl
      refine pure_ (i := 2) (N := some 123) (v := ?_) (a' := ?_) #[true, false, true, false, false, false, false, false, false, false, false, false, false, false, false, false] rfl rfl (any_of HT_.out (by kernel_rfl)) (fun _ _ _ h => h) (Or.inl ⟨by rfl, ?_⟩) ?_ ?_
      rotate_left
      · intro w'
        go_simp
        with_reducible rfl
      rotate_left
      · simp only [Act.put, List.setIfInBounds_toArray, List.set_cons_zero, List.set_cons_succ, i64_w, i32_w]
        rfl
      refine pure_ (i := 4) (N := some 125) (v := ?_) (a' := ?_) #[true, false, true, false, true, false, false, false, false, false, false, false, false, false, false, false] rfl rfl (any_of HT_.out (by kernel_rfl)) (fun _ _ _ h => h) (Or.inl ⟨by rfl, ?_⟩) ?_ ?_
      rotate_left
      · intro w'
        go_simp
        with_reducible rfl
      rotate_left
      · simp only [Act.put, List.setIfInBounds_toArray, List.set_cons_zero, List.set_cons_succ, i64_w, i32_w]
        rfl
      refine pure_ (i := 9) (N := some 130) (v := ?_) (a' := ?_) #[true, false, true, false, true, false, false, false, false, true, false, false, false, false, false, false] rfl rfl (any_of HT_.out (by kernel_rfl)) (fun _ _ _ h => h) (Or.inl ⟨by rfl, ?_⟩) ?_ ?_
      rotate_left
      · intro w'
        go_simp
        with_reducible rfl
      rotate_left
      · simp only [Act.put, List.setIfInBounds_toArray, List.set_cons_zero, List.set_cons_succ, i64_w, i32_w]
        rfl
      refine pure_ (i := 11) (N := some 132) (v := ?_) (a' := ?_) #[true, false, true, false, true, false, false, false, false, true, false, true, false, false, false, false] rfl rfl (any_of HT_.out (by kernel_rfl)) (fun _ _ _ h => h) (Or.inl ⟨by rfl, ?_⟩) ?_ ?_
      rotate_left
      · intro w'
        go_simp
        with_reducible rfl
      rotate_left
      · simp only [Act.put, List.setIfInBounds_toArray, List.set_cons_zero, List.set_cons_succ, i64_w, i32_w]
        rfl
      refine take_ (i := 1) (N := some 122) (v := ?_) (a' := ?_) #[true, true, true, false, true, false, false, false, false, true, false, true, false, false, false, false] rfl rfl (take_ofW HT_.out HW_.out (by kernel_rfl)) (fun _ _ _ h => h) (Or.inl ⟨by rfl, ?_⟩) hHeld ?_ ?_
      rotate_left
      · rintro w' ⟨s0, s1⟩
        go_simp
        with_reducible rfl
      rotate_left
      · simp only [Act.put, List.setIfInBounds_toArray, List.set_cons_zero, List.set_cons_succ, i64_w, i32_w]
        rfl
      refine take_ (i := 5) (N := some 126) (v := ?_) (a' := ?_) #[true, true, true, false, true, true, false, false, false, true, false, true, false, false, false, false] rfl rfl (take_ofW HT_.out HW_.out (by kernel_rfl)) (fun _ _ _ h => h) (Or.inl ⟨by rfl, ?_⟩) hHeld ?_ ?_
      rotate_left
      · rintro w' ⟨s0, s1⟩
        go_simp
        with_reducible rfl
      rotate_left
      · simp only [Act.put, List.setIfInBounds_toArray, List.set_cons_zero, List.set_cons_succ, i64_w, i32_w]
        rfl
      refine pure_ (i := 6) (N := some 127) (v := ?_) (a' := ?_) #[true, true, true, false, true, true, true, false, false, true, false, true, false, false, false, false] rfl rfl (any_of HT_.out (by kernel_rfl)) (fun _ _ _ h => h) (Or.inl ⟨by rfl, ?_⟩) ?_ ?_
      rotate_left
      · intro w'
        go_simp
        with_reducible rfl
      rotate_left
      · simp only [Act.put, List.setIfInBounds_toArray, List.set_cons_zero, List.set_cons_succ, i64_w, i32_w]
        rfl
      refine pure_ (i := 7) (N := some 128) (v := ?_) (a' := ?_) #[true, true, true, false, true, true, true, true, false, true, false, true, false, false, false, false] rfl rfl (any_of HT_.out (by kernel_rfl)) (fun _ _ _ h => h) (Or.inl ⟨by rfl, ?_⟩) ?_ ?_
      rotate_left
      · intro w'
        go_simp
        with_reducible rfl
      rotate_left
      · simp only [Act.put, List.setIfInBounds_toArray, List.set_cons_zero, List.set_cons_succ, i64_w, i32_w]
        rfl
      refine take_ (i := 10) (N := some 131) (v := ?_) (a' := ?_) #[true, true, true, false, true, true, true, true, false, true, true, true, false, false, false, false] rfl rfl (take_ofW HT_.out HW_.out (by kernel_rfl)) (fun _ _ _ h => h) (Or.inl ⟨by rfl, ?_⟩) hHeld ?_ ?_
      rotate_left
      · rintro w' ⟨s0, s1⟩
        go_simp
        with_reducible rfl
      rotate_left
      · simp only [Act.put, List.setIfInBounds_toArray, List.set_cons_zero, List.set_cons_succ, i64_w, i32_w]
        rfl
      refine one_ (i := 3) (N := some 124) #[true, true, true, true, true, true, true, true, false, true, true, true, false, false, false, false] rfl rfl (one_of HT_.out (by kernel_rfl)) (by decide) (fun K hK => ?_)
      refine goes_ Tryd.func34 (by kernel_rfl) rfl #[.slice B7 P.f7.length d7, .int .i64 (P.f2.length : Int)] (by rfl) rfl rfl (by first | rfl | (simp only [List.map_toArray, List.map_cons, List.map_nil]; rfl)) ?_
      refine (set_any B7 d7 P.f7 (P.f2.length : Int) _ (Kd.C_below G7.out HB.out)).mono ?_
      rintro e w' ⟨rfl, hb⟩
      refine ⟨_, rfl, ?_⟩
      have n0_ := Aside0.mk (blk_below BP.out hb)
      have n2_ := Aside0.mk (HB.out.trans (Below.mono hb HB.out.size))
      clear BP HB
      have BP := n0_
      have HB := n2_
      clear n0_ n2_
      clear hb
      refine hK.out _ _ ⟨(blk_cell BP.out 7).trans rfl, (blk_cell BP.out 8).trans rfl⟩ (fun hHeld => ?_)
      clear hK K
      refine norm_ (a' := ?_) ?_ ?_
      rotate_left
      · show Act.put _ (some 124) _ = _
        simp only [Act.put, List.setIfInBounds_toArray, List.set_cons_zero, List.set_cons_succ, i64_w, i32_w]
        rfl
      refine one_ (i := 8) (N := some 129) #[true, true, true, true, true, true, true, true, true, true, true, true, false, false, false, false] rfl rfl (one_of HT_.out (by kernel_rfl)) (by decide) (fun K hK => ?_)
      refine goes_ Tryd.func35 (by kernel_rfl) rfl #[.bool ((P.f7.length : Int) == 0), .int .i64 1] (by rfl) rfl rfl (by first | rfl | (simp only [List.map_toArray, List.map_cons, List.map_nil]; rfl)) ?_
      refine (when_any _ _ _).mono ?_
      rintro e w' ⟨rfl, rfl⟩
      refine ⟨_, rfl, ?_⟩
      refine hK.out _ _ ⟨(blk_cell BP.out 7).trans rfl, (blk_cell BP.out 8).trans rfl⟩ (fun hHeld => ?_)
      clear hK K
      refine norm_ (a' := ?_) ?_ ?_
      rotate_left
      · show Act.put _ (some 129) _ = _
        simp only [Act.put, List.setIfInBounds_toArray, List.set_cons_zero, List.set_cons_succ, i64_w, i32_w]
        rfl
      refine one_ (i := 12) (N := some 133) #[true, true, true, true, true, true, true, true, true, true, true, true, true, false, false, false] rfl rfl (one_of HT_.out (by kernel_rfl)) (by decide) (fun K hK => ?_)
      refine goes_ Tryd.func34 (by kernel_rfl) rfl #[.slice B8 P.f8.length d8, .int .i64 (P.f2.length : Int)] (by rfl) rfl rfl (by first | rfl | (simp only [List.map_toArray, List.map_cons, List.map_nil]; rfl)) ?_
      refine (set_any B8 d8 P.f8 (P.f2.length : Int) _ (Kd.C_below G8.out HB.out)).mono ?_
      rintro e w' ⟨rfl, hb⟩
      refine ⟨_, rfl, ?_⟩
      have n0_ := Aside0.mk (blk_below BP.out hb)
      have n2_ := Aside0.mk (HB.out.trans (Below.mono hb HB.out.size))
      clear BP HB
      have BP := n0_
      have HB := n2_
      clear n0_ n2_
      clear hb
      refine hK.out _ _ ⟨(blk_cell BP.out 7).trans rfl, (blk_cell BP.out 8).trans rfl⟩ (fun hHeld => ?_)
      clear hK K
      refine norm_ (a' := ?_) ?_ ?_
      rotate_left
      · show Act.put _ (some 133) _ = _
        simp only [Act.put, List.setIfInBounds_toArray, List.set_cons_zero, List.set_cons_succ, i64_w, i32_w]
        rfl
      refine one_ (i := 13) (N := some 134) #[true, true, true, true, true, true, true, true, true, true, true, true, true, true, false, false] rfl rfl (one_of HT_.out (by kernel_rfl)) (by decide) (fun K hK => ?_)
      refine Kd.R_lit_step (Kd.int .i64) _ 36 ?hg (N := 134) ?hd (xs := ([(setE P.f7 (P.f2.length : Int)), (whenE ((P.f7.length : Int) == 0) 1), (setE P.f8 (P.f2.length : Int))] : List Int)) (inner := [.int .i64 (setE P.f7 (P.f2.length : Int)), .int .i64 (whenE ((P.f7.length : Int) == 0) 1), .int .i64 (setE P.f8 (P.f2.length : Int))]) (ok := fun _ => True) (okp := fun _ => True) ?hr ?hp (fun _ hk => hk) trivial (Below.refl _ _) (Nat.le_refl _) (by simp) ?_; (case hd => rfl); (case hg => rfl); (case hr => first | (go_simp; done) | (go_simp; rfl)); (case hp => exact (Reps.one (show Kd.M (Kd.int .i64) _ _ _ (setE P.f7 (P.f2.length : Int)) [.int .i64 (setE P.f7 (P.f2.length : Int))] from rfl) (Reps.one (show Kd.M (Kd.int .i64) _ _ _ (whenE ((P.f7.length : Int) == 0) 1) [.int .i64 (whenE ((P.f7.length : Int) == 0) 1)] from rfl) (Reps.one (show Kd.M (Kd.int .i64) _ _ _ (setE P.f8 (P.f2.length : Int)) [.int .i64 (setE P.f8 (P.f2.length : Int))] from rfl) (Reps.none _ _)))))
      intro vL wL ho hb hg_ hnew_
      clear hg_ hnew_
      obtain ⟨aL, cL, hv⟩ := Kd.R_slice ho
      replace hv : vL = .slice aL 3 cL := hv
      subst hv
      have HL := Aside0.mk (Kd.R_reads' ho)
      clear ho
      have n0_ := Aside0.mk (blk_below BP.out hb)
      have n2_ := Aside0.mk (HB.out.trans (Below.mono hb HB.out.size))
      clear BP HB
      have BP := n0_
      have HB := n2_
      clear n0_ n2_
      clear hb
      refine hK.out _ _ ⟨(blk_cell BP.out 7).trans rfl, (blk_cell BP.out 8).trans rfl⟩ (fun hHeld => ?_)
      clear hK K
      refine norm_ (a' := ?_) ?_ ?_
      rotate_left
      · show Act.put _ (some 134) _ = _
        simp only [Act.put, List.setIfInBounds_toArray, List.set_cons_zero, List.set_cons_succ, i64_w, i32_w]
        rfl
      refine one_ (i := 14) (N := some 135) #[true, true, true, true, true, true, true, true, true, true, true, true, true, true, true, false] rfl rfl (one_of HT_.out (by kernel_rfl)) (by decide) (fun K hK => ?_)
      refine goes_ Tryd.func22 (by kernel_rfl) rfl #[.slice aL 3 cL] (by rfl) rfl rfl (by first | rfl | (simp only [List.map_toArray, List.map_cons, List.map_nil]; rfl)) ?_
      refine (first_any _ _ [(setE P.f7 (P.f2.length : Int)), (whenE ((P.f7.length : Int) == 0) 1), (setE P.f8 (P.f2.length : Int))] _ HL.out.2.2).mono ?_
      rintro e w' ⟨rfl, rfl⟩
      refine ⟨_, rfl, ?_⟩
      refine hK.out _ _ ⟨(blk_cell BP.out 7).trans rfl, (blk_cell BP.out 8).trans rfl⟩ (fun hHeld => ?_)
      clear hK K
      refine norm_ (a' := ?_) ?_ ?_
      rotate_left
      · show Act.put _ (some 135) _ = _
        simp only [Act.put, List.setIfInBounds_toArray, List.set_cons_zero, List.set_cons_succ, i64_w, i32_w]
        rfl
      refine pure_ (i := 15) (N := some 8) (v := ?_) (a' := ?_) #[true, true, true, true, true, true, true, true, true, true, true, true, true, true, true, true] rfl rfl (any_of HT_.out (by kernel_rfl)) (fun _ _ _ h => h) (Or.inl ⟨by rfl, ?_⟩) ?_ ?_
      rotate_left
      · intro w'
        go_simp
        with_reducible rfl
      rotate_left
      · simp only [Act.put, List.setIfInBounds_toArray, List.set_cons_zero, List.set_cons_succ, i64_w, i32_w]
        rfl
      refine done_ (done_of HT_.out (by kernel_rfl)) ?_
      clear HL hHeld
      have hse : firstE [setE P.f7 (P.f2.length : Int), whenE ((P.f7.length : Int) == 0) 1, setE P.f8 (P.f2.length : Int)] = setsE P := rfl
      rw [hse]
      clear hse
      generalize setsE P = q at HE2
      by_cases h0 : q = 0
      case neg =>
        have d0 : (q != 0) = true := bne_iff_ne.mpr h0
        rw [if_neg h0] at HE2
        have HE := Aside0.mk HE2
        clear HE2
        go_wp2_with fail
        go_ret
        exact ⟨by rw [HRR.out, ← HE.out]; rfl, HB.out⟩
      have d0 : (q != 0) = false := bne_eq_false_iff_eq.mpr h0
      rw [if_pos h0] at HE2
      have HE := Aside0.mk HE2
      clear HE2 h0
      obtain ⟨w5, hw5⟩ : ∃ w5, w5 = w' := ⟨_, rfl⟩
      rw [← hw5] at BP HB ⊢
      clear hw5
      have p9 : w5.cell? ⟨w.heap.size, 9, none⟩ = some (.slice B9 P.f9.length d9) := (blk_cell BP.out 9).trans rfl
      go_wp2_with fail
      clear p9
      go_loopw [142] (fun v142 W => ∃ i : Nat, i ≤ P.f9.length ∧ v142 = .int .i64 i ∧ Aside0 (scan (ruleE P) (P.f9.length - i) i = rulesE P) ∧ Aside0 (Below w5.heap.size w5 W)) (fun v142 _ => P.f9.length - (intOf v142).toNat)
      case atStart => exact ⟨0, Nat.zero_le _, rfl, ⟨rfl⟩, ⟨Below.refl _ _⟩⟩
      case round =>
        obtain ⟨i, hi, rfl, HEr, HBr⟩ := hrel
        have BPr := Aside0.mk (blk_below BP.out HBr.out)
        have HBw := Aside0.mk (HB.out.trans (HBr.out.mono HB.out.size))
        by_cases hlt : i < P.f9.length
        · obtain ⟨b, hb⟩ : ∃ b, P.f9.length - i = b + 1 := ⟨P.f9.length - i - 1, by omega⟩
          have HE2 := HEr.out
          rw [hb] at HE2
          obtain ⟨hz, hn⟩ := scan_step HE2
          clear HEr HE2
          go_wp2_with ((with_reducible refine gate_dst (N := 145) rfl ?_); refine Kd.event_run rfl (load_run 27 (.tmp 1) rfl ⟨w.heap.size, 0, none⟩ (by go_simp) [.string P.f0, .int .i64 P.f1, .slice B2 P.f2.length d2, .slice B3 P.f3.length d3, .slice B4 P.f4.length d4, .int .i64 P.f5, .slice B6 P.f6.length d6, .slice B7 P.f7.length d7, .slice B8 P.f8.length d8, .slice B9 P.f9.length d9] (fun w => Tryd.sizeOf27 w) Tryd.isAgg27 (fun j v hj => by rw [Addr.add_lit, Nat.zero_add]; exact (blk_cell BPr.out j).trans (by simpa using hj))) ?_)
          refine (rule_any P [.string P.f0, .int .i64 P.f1, .slice B2 P.f2.length d2, .slice B3 P.f3.length d3, .slice B4 P.f4.length d4, .int .i64 P.f5, .slice B6 P.f6.length d6, .slice B7 P.f7.length d7, .slice B8 P.f8.length d8, .slice B9 P.f9.length d9] i _ (Glob_below HG.out HBw.out) (k27.K_below HBw.out HP.out) hlt (HS.out.1 i hlt)).mono ?_
          rintro e w6 ⟨rfl, hB⟩
          have HBn := Aside0.mk (HBr.out.trans (hB.mono HBr.out.size))
          clear hB
          generalize ruleE P i = q at hz hn
          by_cases h0 : q = 0
          · have d0 : (q != 0) = false := bne_eq_false_iff_eq.mpr h0
            have HEn := Aside0.mk (hz h0)
            clear hz hn h0
            go_wp2_with fail
            go_roundw
            case rel => exact ⟨i + 1, by omega, by go_num, ⟨by rw [show P.f9.length - (i + 1) = b by omega]; exact HEn.out⟩, HBn⟩
            case measure => simp [intOf]; omega
          · have d0 : (q != 0) = true := bne_iff_ne.mpr h0
            have h4 := hn h0
            clear hz hn
            have HE2 := HE.out
            rw [if_neg (by rw [← h4]; exact h0), ← h4] at HE2
            have HE := Aside0.mk HE2
            clear HE2 h4
            go_wp2_with fail
            go_ret
            exact ⟨by rw [HRR.out, ← HE.out]; rfl, HB.out.trans (HBn.out.mono HB.out.size)⟩
        · have hi2 : i = P.f9.length := by omega
          subst hi2
          rw [Nat.sub_self] at HEr
          have HE2 := HE.out
          rw [if_pos (show rulesE P = 0 by rw [← HEr.out]; rfl)] at HE2
          have HE := Aside0.mk HE2
          clear HEr HE2
          go_wp2_with ((with_reducible refine gate_dst (N := 152) rfl ?_); refine Kd.event_run rfl (load_run 27 (.tmp 1) rfl ⟨w.heap.size, 0, none⟩ (by go_simp) [.string P.f0, .int .i64 P.f1, .slice B2 P.f2.length d2, .slice B3 P.f3.length d3, .slice B4 P.f4.length d4, .int .i64 P.f5, .slice B6 P.f6.length d6, .slice B7 P.f7.length d7, .slice B8 P.f8.length d8, .slice B9 P.f9.length d9] (fun w => Tryd.sizeOf27 w) Tryd.isAgg27 (fun j v hj => by rw [Addr.add_lit, Nat.zero_add]; exact (blk_cell BPr.out j).trans (by simpa using hj))) ?_)
          refine (thr_any P [.string P.f0, .int .i64 P.f1, .slice B2 P.f2.length d2, .slice B3 P.f3.length d3, .slice B4 P.f4.length d4, .int .i64 P.f5, .slice B6 P.f6.length d6, .slice B7 P.f7.length d7, .slice B8 P.f8.length d8, .slice B9 P.f9.length d9] _ (k27.K_below HBw.out HP.out) HS.out.2).mono ?_
          rintro e w6 ⟨At, ct, rfl, hB⟩
          have HBn := Aside0.mk (HBw.out.trans (hB.mono HBw.out.size))
          clear hB
          go_wp2_with fail
          refine (when_any (decide ((3 : Int) < (thrE P.f9).length)) 4 _).mono ?_
          rintro e w7 ⟨rfl, rfl⟩
          go_wp2_with fail
          go_ret
          exact ⟨by rw [HRR.out, ← HE.out]; rfl, HBn.out⟩
end Go.Proofs.YtoggkfapdomhgaaDoor.Pr
