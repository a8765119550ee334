/- Contract of surplus; conditions: each theorem's own premises. -/
import Derived.Test.YtoggkfapdomhgaaDoorHf
import Derived.Deep.DeepCutAuto
import Derived.Deep.CutBlock
namespace Go.Proofs.YtoggkfapdomhgaaDoor.Pr
open Go.RowKit Go.Proofs.YtoggkfapdomhgaaDoorW.PrintWords Go.Proofs.YtoggkfapdomhgaaDoorW.PrintLast Go.Proofs.YtoggkfapdomhgaaDoorW.PrintMore
set_option linter.unusedVariables false
set_option linter.unusedSimpArgs false
set_option maxRecDepth 100000
/-- What the end of surplus looks at: eight lengths, six numbers. -/
def surT (s : Nat) (f4 f5 f13 f17 f10 f11 : Int) : Bool := decide ((0 : Int) < s) || f4 != 0 || f5 != 0 || f13 != 0 || f17 != 0 || f10 != -1 || f11 != -1
def surE (R : S30) (t : Int) : Bool :=
  if R.f1 = 1 then surT (R.f6.length + R.f14.length + R.f15.length + R.f16.length) R.f4 R.f5 R.f13 R.f17 (-1) (-1)
  else if R.f1 = 2 then if 0 < R.f6.length then true else surT (R.f7.length + R.f8.length + R.f9.length + R.f12.length + R.f14.length + R.f15.length + R.f16.length) 0 0 R.f13 R.f17 (-1) (-1)
  else if R.f1 = 3 then surT (R.f7.length + R.f8.length + R.f9.length + R.f12.length + R.f14.length + R.f15.length + R.f16.length) R.f4 R.f5 R.f13 R.f17 (-1) (-1)
  else if R.f1 = 4 then surT (R.f6.length + R.f7.length + R.f8.length + R.f9.length + R.f12.length + if t = 4 then 0 else R.f16.length) R.f4 R.f5 0 R.f17 R.f10 R.f11
  else if R.f1 = 5 then surT (R.f6.length + R.f7.length + R.f8.length + R.f9.length + R.f12.length + R.f14.length + R.f15.length + R.f16.length) 0 0 R.f13 0 R.f10 R.f11
  else surT (R.f6.length + R.f7.length + R.f8.length + R.f9.length + R.f12.length + R.f14.length + R.f15.length + R.f16.length) R.f4 R.f5 R.f13 R.f17 R.f10 R.f11
/-- The rule's block as the end of surplus finds it. -/
def SurW (g : Nat) (R : S30) (t : Int) (W : World) : Prop := ∃ (a6 a7 a8 a9 a12 a14 a15 a16 : Option Addr) (n6 n7 n8 n9 n12 n14 n15 n16 c6 c7 c8 c9 c12 c14 c15 c16 : Nat) (x1 f4 f5 f13 f17 f10 f11 : Int),
  W.heap[g]? = some (.cells #[.string R.f0, .int .i64 x1, .int .i64 R.f2, .int .i64 R.f3, .int .i64 f4, .int .i64 f5, .slice a6 n6 c6, .slice a7 n7 c7, .slice a8 n8 c8, .slice a9 n9 c9, .int .i64 f10, .int .i64 f11, .slice a12 n12 c12, .int .i64 f13, .slice a14 n14 c14, .slice a15 n15 c15, .slice a16 n16 c16, .int .i64 f17] 30 (0, 0)) ∧
  n6 + n7 + n8 + n9 + n12 + n14 + n15 + n16 ≤ 1000000 ∧ surE R t = surT (n6 + n7 + n8 + n9 + n12 + n14 + n15 + n16) f4 f5 f13 f17 f10 f11
set_option maxHeartbeats 4000000 in
theorem surplus_any (R : S30) (cs : List Value) (t : Int) (w : World) (hR : k30.K w R cs) (hl : R.f6.length + R.f7.length + R.f8.length + R.f9.length + R.f12.length + R.f14.length + R.f15.length + R.f16.length ≤ 1000000) :
    Calls Tryd.prog 56 #[.agg cs.toArray, .int .i64 t] w fun e w' => e = .returned (.bool (surE R t)) ∧ Below w.heap.size w w' := by
  obtain ⟨A6, c6, A7, c7, A8, c8, A9, c9, A12, c12, A14, c14, A15, c15, A16, c16, rfl, _⟩ := k30_open hR
  clear hR
  go_enter Tryd.func56, Tryd.ntmps56
  go_upto_block 0 with (fail)
  go_cut [] (fun wc => Aside0 (SurW w.heap.size R t wc) ∧ Aside0 (Below w.heap.size w wc))
  case first =>
    by_cases h1 : R.f1 = 1
    · have d1 : (R.f1 == 1) = true := beq_iff_eq.mpr h1
      go_wp2_with fail
      go_meet
      refine ⟨⟨_, _, _, _, _, _, _, _, _, _, _, _, _, _, _, _, _, _, _, _, _, _, _, _, _, _, _, _, _, _, _, heap_alloc_new _ _, ?_, ?_⟩, ⟨(Below.refl _ _).alloc (Nat.le_refl _) _⟩⟩
      · (try simp only [Nat.zero_add, Nat.add_zero]); omega
      · unfold surE
        rw [if_pos h1]
        all_goals (try simp only [Nat.zero_add, Nat.add_zero])
    have d1 : (R.f1 == 1) = false := beq_eq_false_iff_ne.mpr h1
    by_cases h2 : R.f1 = 2
    · have d2 : (R.f1 == 2) = true := beq_iff_eq.mpr h2
      by_cases h6 : 0 < R.f6.length
      · have d6 : decide ((0 : Int) < (R.f6.length : Int)) = true := decide_eq_true (by omega)
        go_wp2_with fail
        go_ret
        exact ⟨by unfold surE; rw [if_neg h1, if_pos h2, if_pos h6]; rfl, (Below.refl _ _).alloc (Nat.le_refl _) _⟩
      · have d6 : decide ((0 : Int) < (R.f6.length : Int)) = false := decide_eq_false (by omega)
        go_wp2_with fail
        go_meet
        refine ⟨⟨_, _, _, _, _, _, _, _, _, _, _, _, _, _, _, _, _, _, _, _, _, _, _, _, _, _, _, _, _, _, _, heap_alloc_new _ _, ?_, ?_⟩, ⟨(Below.refl _ _).alloc (Nat.le_refl _) _⟩⟩
        · (try simp only [Nat.zero_add, Nat.add_zero]); omega
        · unfold surE
          rw [if_neg h1, if_pos h2, if_neg h6]
          all_goals (try simp only [Nat.zero_add, Nat.add_zero])
    have d2 : (R.f1 == 2) = false := beq_eq_false_iff_ne.mpr h2
    by_cases h3 : R.f1 = 3
    · have d3 : (R.f1 == 3) = true := beq_iff_eq.mpr h3
      go_wp2_with fail
      go_meet
      refine ⟨⟨_, _, _, _, _, _, _, _, _, _, _, _, _, _, _, _, _, _, _, _, _, _, _, _, _, _, _, _, _, _, _, heap_alloc_new _ _, ?_, ?_⟩, ⟨(Below.refl _ _).alloc (Nat.le_refl _) _⟩⟩
      · (try simp only [Nat.zero_add, Nat.add_zero]); omega
      · unfold surE
        rw [if_neg h1, if_neg h2, if_pos h3]
        all_goals (try simp only [Nat.zero_add, Nat.add_zero])
    have d3 : (R.f1 == 3) = false := beq_eq_false_iff_ne.mpr h3
    by_cases h4 : R.f1 = 4
    · have d4 : (R.f1 == 4) = true := beq_iff_eq.mpr h4
      by_cases ht : t = 4
      · have dt : (t == 4) = true := beq_iff_eq.mpr ht
        go_wp2_with fail
        go_meet
        refine ⟨⟨_, _, _, _, _, _, _, _, _, _, _, _, _, _, _, _, _, _, _, _, _, _, _, _, _, _, _, _, _, _, _, heap_alloc_new _ _, ?_, ?_⟩, ⟨(Below.refl _ _).alloc (Nat.le_refl _) _⟩⟩
        · (try simp only [Nat.zero_add, Nat.add_zero]); omega
        · unfold surE
          rw [if_neg h1, if_neg h2, if_neg h3, if_pos h4, if_pos ht]
          all_goals (try simp only [Nat.zero_add, Nat.add_zero])
      · have dt : (t == 4) = false := beq_eq_false_iff_ne.mpr ht
        go_wp2_with fail
        go_meet
        refine ⟨⟨_, _, _, _, _, _, _, _, _, _, _, _, _, _, _, _, _, _, _, _, _, _, _, _, _, _, _, _, _, _, _, heap_alloc_new _ _, ?_, ?_⟩, ⟨(Below.refl _ _).alloc (Nat.le_refl _) _⟩⟩
        · (try simp only [Nat.zero_add, Nat.add_zero]); omega
        · unfold surE
          rw [if_neg h1, if_neg h2, if_neg h3, if_pos h4, if_neg ht]
          all_goals (try simp only [Nat.zero_add, Nat.add_zero])
    have d4 : (R.f1 == 4) = false := beq_eq_false_iff_ne.mpr h4
    by_cases h5 : R.f1 = 5
    · have d5 : (R.f1 == 5) = true := beq_iff_eq.mpr h5
      go_wp2_with fail
      go_meet
      refine ⟨⟨_, _, _, _, _, _, _, _, _, _, _, _, _, _, _, _, _, _, _, _, _, _, _, _, _, _, _, _, _, _, _, heap_alloc_new _ _, ?_, ?_⟩, ⟨(Below.refl _ _).alloc (Nat.le_refl _) _⟩⟩
      · (try simp only [Nat.zero_add, Nat.add_zero]); omega
      · unfold surE
        rw [if_neg h1, if_neg h2, if_neg h3, if_neg h4, if_pos h5]
        all_goals (try simp only [Nat.zero_add, Nat.add_zero])
    have d5 : (R.f1 == 5) = false := beq_eq_false_iff_ne.mpr h5
    go_wp2_with fail
    go_meet
    refine ⟨⟨_, _, _, _, _, _, _, _, _, _, _, _, _, _, _, _, _, _, _, _, _, _, _, _, _, _, _, _, _, _, _, heap_alloc_new _ _, ?_, ?_⟩, ⟨(Below.refl _ _).alloc (Nat.le_refl _) _⟩⟩
    · (try simp only [Nat.zero_add, Nat.add_zero]); omega
    · unfold surE
      rw [if_neg h1, if_neg h2, if_neg h3, if_neg h4, if_neg h5]
      all_goals (try simp only [Nat.zero_add, Nat.add_zero])
  case rest =>
    obtain ⟨HS, HB⟩ := hcut
    obtain ⟨⟨a6, a7, a8, a9, a12, a14, a15, a16, n6, n7, n8, n9, n12, n14, n15, n16, e6, e7, e8, e9, e12, e14, e15, e16, x1, f4, f5, f13, f17, f10, f11, hk, hle, hE⟩⟩ := HS
    have HE := Aside0.mk hE
    clear hE
    have y4 : wc.cell? ⟨w.heap.size, 4, none⟩ = some (.int .i64 f4) := (blk_cell hk 4).trans rfl
    have y5 : wc.cell? ⟨w.heap.size, 5, none⟩ = some (.int .i64 f5) := (blk_cell hk 5).trans rfl
    have y6 : wc.cell? ⟨w.heap.size, 6, none⟩ = some (.slice a6 n6 e6) := (blk_cell hk 6).trans rfl
    have y7 : wc.cell? ⟨w.heap.size, 7, none⟩ = some (.slice a7 n7 e7) := (blk_cell hk 7).trans rfl
    have y8 : wc.cell? ⟨w.heap.size, 8, none⟩ = some (.slice a8 n8 e8) := (blk_cell hk 8).trans rfl
    have y9 : wc.cell? ⟨w.heap.size, 9, none⟩ = some (.slice a9 n9 e9) := (blk_cell hk 9).trans rfl
    have y10 : wc.cell? ⟨w.heap.size, 10, none⟩ = some (.int .i64 f10) := (blk_cell hk 10).trans rfl
    have y11 : wc.cell? ⟨w.heap.size, 11, none⟩ = some (.int .i64 f11) := (blk_cell hk 11).trans rfl
    have y12 : wc.cell? ⟨w.heap.size, 12, none⟩ = some (.slice a12 n12 e12) := (blk_cell hk 12).trans rfl
    have y13 : wc.cell? ⟨w.heap.size, 13, none⟩ = some (.int .i64 f13) := (blk_cell hk 13).trans rfl
    have y14 : wc.cell? ⟨w.heap.size, 14, none⟩ = some (.slice a14 n14 e14) := (blk_cell hk 14).trans rfl
    have y15 : wc.cell? ⟨w.heap.size, 15, none⟩ = some (.slice a15 n15 e15) := (blk_cell hk 15).trans rfl
    have y16 : wc.cell? ⟨w.heap.size, 16, none⟩ = some (.slice a16 n16 e16) := (blk_cell hk 16).trans rfl
    have y17 : wc.cell? ⟨w.heap.size, 17, none⟩ = some (.int .i64 f17) := (blk_cell hk 17).trans rfl
    clear hk
    go_upto_region 19 with (fail)
    by_cases h : 0 < n6 + n7 + n8 + n9 + n12 + n14 + n15 + n16
    · have d0 : decide ((0 : Int) < ((n6 : Int) + n7 + n8 + n9 + n12 + n14 + n15 + n16)) = true := decide_eq_true (by omega)
      go_wp2_with fail
      go_ret
      exact ⟨by rw [HE.out]; unfold surT; rw [show decide ((0 : Int) < ((n6 + n7 + n8 + n9 + n12 + n14 + n15 + n16 : Nat) : Int)) = decide ((0 : Int) < ((n6 : Int) + n7 + n8 + n9 + n12 + n14 + n15 + n16)) by simp]; simp only [d0, Bool.or_true, Bool.true_or, Bool.false_or]; rfl, HB.out⟩
    have d0 : decide ((0 : Int) < ((n6 : Int) + n7 + n8 + n9 + n12 + n14 + n15 + n16)) = false := decide_eq_false (by omega)
    clear h
    by_cases h : f4 ≠ 0
    · have d1 : (f4 != 0) = true := bne_iff_ne.mpr h
      go_wp2_with fail
      go_ret
      exact ⟨by rw [HE.out]; unfold surT; rw [show decide ((0 : Int) < ((n6 + n7 + n8 + n9 + n12 + n14 + n15 + n16 : Nat) : Int)) = decide ((0 : Int) < ((n6 : Int) + n7 + n8 + n9 + n12 + n14 + n15 + n16)) by simp]; simp only [d0, d1, Bool.or_true, Bool.true_or, Bool.false_or]; rfl, HB.out⟩
    have d1 : (f4 != 0) = false := by rw [bne_eq_false_iff_eq]; exact Decidable.of_not_not h
    clear h
    by_cases h : f5 ≠ 0
    · have d2 : (f5 != 0) = true := bne_iff_ne.mpr h
      go_wp2_with fail
      go_ret
      exact ⟨by rw [HE.out]; unfold surT; rw [show decide ((0 : Int) < ((n6 + n7 + n8 + n9 + n12 + n14 + n15 + n16 : Nat) : Int)) = decide ((0 : Int) < ((n6 : Int) + n7 + n8 + n9 + n12 + n14 + n15 + n16)) by simp]; simp only [d0, d1, d2, Bool.or_true, Bool.true_or, Bool.false_or]; rfl, HB.out⟩
    have d2 : (f5 != 0) = false := by rw [bne_eq_false_iff_eq]; exact Decidable.of_not_not h
    clear h
    by_cases h : f13 ≠ 0
    · have d3 : (f13 != 0) = true := bne_iff_ne.mpr h
      go_wp2_with fail
      go_ret
      exact ⟨by rw [HE.out]; unfold surT; rw [show decide ((0 : Int) < ((n6 + n7 + n8 + n9 + n12 + n14 + n15 + n16 : Nat) : Int)) = decide ((0 : Int) < ((n6 : Int) + n7 + n8 + n9 + n12 + n14 + n15 + n16)) by simp]; simp only [d0, d1, d2, d3, Bool.or_true, Bool.true_or, Bool.false_or]; rfl, HB.out⟩
    have d3 : (f13 != 0) = false := by rw [bne_eq_false_iff_eq]; exact Decidable.of_not_not h
    clear h
    by_cases h : f17 ≠ 0
    · have d4 : (f17 != 0) = true := bne_iff_ne.mpr h
      go_wp2_with fail
      go_ret
      exact ⟨by rw [HE.out]; unfold surT; rw [show decide ((0 : Int) < ((n6 + n7 + n8 + n9 + n12 + n14 + n15 + n16 : Nat) : Int)) = decide ((0 : Int) < ((n6 : Int) + n7 + n8 + n9 + n12 + n14 + n15 + n16)) by simp]; simp only [d0, d1, d2, d3, d4, Bool.or_true, Bool.true_or, Bool.false_or]; rfl, HB.out⟩
    have d4 : (f17 != 0) = false := by rw [bne_eq_false_iff_eq]; exact Decidable.of_not_not h
    clear h
    by_cases h : f10 ≠ -1
    · have d5 : (f10 != -1) = true := bne_iff_ne.mpr h
      go_wp2_with fail
      go_ret
      exact ⟨by rw [HE.out]; unfold surT; rw [show decide ((0 : Int) < ((n6 + n7 + n8 + n9 + n12 + n14 + n15 + n16 : Nat) : Int)) = decide ((0 : Int) < ((n6 : Int) + n7 + n8 + n9 + n12 + n14 + n15 + n16)) by simp]; simp only [d0, d1, d2, d3, d4, d5, Bool.or_true, Bool.true_or, Bool.false_or]; rfl, HB.out⟩
    have d5 : (f10 != -1) = false := by rw [bne_eq_false_iff_eq]; exact Decidable.of_not_not h
    clear h
    by_cases h : f11 ≠ -1
    · have d6 : (f11 != -1) = true := bne_iff_ne.mpr h
      go_wp2_with fail
      go_ret
      exact ⟨by rw [HE.out]; unfold surT; rw [show decide ((0 : Int) < ((n6 + n7 + n8 + n9 + n12 + n14 + n15 + n16 : Nat) : Int)) = decide ((0 : Int) < ((n6 : Int) + n7 + n8 + n9 + n12 + n14 + n15 + n16)) by simp]; simp only [d0, d1, d2, d3, d4, d5, d6, Bool.or_true, Bool.true_or, Bool.false_or]; rfl, HB.out⟩
    have d6 : (f11 != -1) = false := by rw [bne_eq_false_iff_eq]; exact Decidable.of_not_not h
    clear h
    go_wp2_with fail
    go_ret
    exact ⟨by rw [HE.out]; unfold surT; rw [show decide ((0 : Int) < ((n6 + n7 + n8 + n9 + n12 + n14 + n15 + n16 : Nat) : Int)) = decide ((0 : Int) < ((n6 : Int) + n7 + n8 + n9 + n12 + n14 + n15 + n16)) by simp]; simp only [d0, d1, d2, d3, d4, d5, d6, Bool.or_true, Bool.true_or, Bool.false_or]; rfl, HB.out⟩
end Go.Proofs.YtoggkfapdomhgaaDoor.Pr
