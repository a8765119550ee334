/- Contract of change; conditions: each theorem's own premises. -/
import Derived.Test.YtoggkfapdomhgaaDoorHm
import Derived.Test.YtoggkfapdomhgaaDoorFm
import Derived.Test.YtoggkfapdomhgaaDoorRd
namespace Go.Proofs.YtoggkfapdomhgaaDoor.Pr
open Go.RowKit Go.Proofs.YtoggkfapdomhgaaDoorW.PrintWords Go.Proofs.YtoggkfapdomhgaaDoorW.PrintLast Go.Proofs.YtoggkfapdomhgaaDoorW.PrintMore
set_option linter.unusedVariables false
set_option linter.unusedSimpArgs false
set_option maxRecDepth 100000
def change.T1 : Bool × List (List Nat × List Nat) := (true, [([], []), ([0], [0]), ([1], [1]), ([2], [2]), ([3], [3]), ([4, 3], [3, 4]), ([3], [3]), ([6, 3], [3, 6]), ([7, 3], [3, 7]), ([8, 3], [3, 8]), ([9, 3], [3, 9]), ([5, 10, 3], [3, 5, 10]), ([3, 11], [3, 11]), ([12, 3, 0, 1, 2, 3, 4, 5, 6, 7, 8, 9, 10, 11, 12], [12])])
def change.B1 : List Nat := [0, 1, 3, 7, 15, 31, 15, 79, 207, 463, 975, 2047, 4095, 8191]
theorem change.tab1 : rtab .any (opsOf Tryd.f16 1) = change.T1 := by kernel_rfl
theorem change.bits1 : waitsOk change.T1.2 change.B1 = true := by kernel_rfl
def change.T2 : Bool × List (List Nat × List Nat) := (true, [([], []), ([0], [0]), ([1], [1]), ([2], [2]), ([3], [3]), ([4, 3], [3, 4]), ([3], [3]), ([6, 3], [3, 6]), ([7, 3], [3, 7]), ([8, 3], [3, 8]), ([9, 3], [3, 9]), ([5, 10, 3], [3, 5, 10]), ([3, 11], [3, 11]), ([12, 3, 0, 1, 2, 3, 4, 5, 6, 7, 8, 9, 10, 11, 12], [12])])
def change.B2 : List Nat := [0, 1, 3, 7, 15, 31, 15, 79, 207, 463, 975, 2047, 4095, 8191]
theorem change.tab2 : rtab .any (opsOf Tryd.f16 2) = change.T2 := by kernel_rfl
theorem change.bits2 : waitsOk change.T2.2 change.B2 = true := by kernel_rfl
def change.T3 : Bool × List (List Nat × List Nat) := (true, [([], []), ([0], [0]), ([1], [1]), ([2], [2]), ([], []), ([4], [4]), ([3, 5], [3, 5]), ([6], [6]), ([7], [7]), ([7], [7]), ([8, 6, 0, 1, 2, 3, 4, 5, 6, 7, 8], [8]), ([9, 10, 0, 1, 2, 3, 4, 5, 6, 7, 8, 9, 10], [9])])
def change.B3 : List Nat := [0, 1, 3, 7, 0, 16, 63, 127, 255, 255, 511, 2047]
theorem change.tab3 : rtab .any (opsOf Tryd.f16 3) = change.T3 := by kernel_rfl
theorem change.bits3 : waitsOk change.T3.2 change.B3 = true := by kernel_rfl
def change.T22 : Bool × List (List Nat × List Nat) := (true, [([], []), ([0], [0]), ([1], [1]), ([2], [2]), ([], []), ([4], [4]), ([], []), ([6], [6]), ([3, 5, 0, 1, 2, 3, 4, 5, 6, 7], [3, 5]), ([8, 7, 0, 1, 2, 3, 4, 5, 6, 7], [7, 8])])
def change.B22 : List Nat := [0, 1, 3, 7, 0, 16, 0, 64, 255, 511]
theorem change.tab22 : rtab .any (opsOf Tryd.f16 22) = change.T22 := by kernel_rfl
theorem change.bits22 : waitsOk change.T22.2 change.B22 = true := by kernel_rfl
def change.T7 : Bool × List (List Nat × List Nat) := (true, [([], []), ([], []), ([1], [1]), ([2], [2]), ([3], [3]), ([], []), ([5], [5]), ([6], [6]), ([7], [7]), ([4, 8, 7], [4, 8]), ([0, 0, 1, 2, 3, 4, 5, 6, 7, 8, 9], [0]), ([10, 0, 1, 2, 3, 4, 5, 6, 7, 8, 9], [10]), ([11, 9, 9, 0, 1, 2, 3, 4, 5, 6, 7, 8, 9], [9, 11])])
def change.B7 : List Nat := [0, 0, 2, 6, 14, 0, 32, 96, 224, 510, 1023, 2047, 4095]
theorem change.tab7 : rtab .any (opsOf Tryd.f16 7) = change.T7 := by kernel_rfl
theorem change.bits7 : waitsOk change.T7.2 change.B7 = true := by kernel_rfl
def change.T13 : Bool × List (List Nat × List Nat) := (true, [([], []), ([0], [0]), ([1], [1]), ([2], [2]), ([], []), ([4], [4]), ([], []), ([6], [6]), ([7], [7]), ([3, 5, 0, 1, 2, 3, 4, 5, 6, 7, 8], [3, 5]), ([9, 8, 8, 0, 1, 2, 3, 4, 5, 6, 7, 8], [8, 9])])
def change.B13 : List Nat := [0, 1, 3, 7, 0, 16, 0, 64, 192, 511, 1023]
theorem change.tab13 : rtab .any (opsOf Tryd.f16 13) = change.T13 := by kernel_rfl
theorem change.bits13 : waitsOk change.T13.2 change.B13 = true := by kernel_rfl
def change.T14 : Bool × List (List Nat × List Nat) := (true, [([], []), ([], []), ([1], [1]), ([2], [2]), ([3], [3]), ([], []), ([5], [5]), ([], []), ([7], [7]), ([8], [8]), ([4, 6, 9], [4, 6, 9]), ([0, 0, 1, 2, 3, 4, 5, 6, 7, 8, 9, 10], [0]), ([11, 0, 1, 2, 3, 4, 5, 6, 7, 8, 9, 10], [11]), ([12, 10, 10, 0, 1, 2, 3, 4, 5, 6, 7, 8, 9, 10], [10, 12])])
def change.B14 : List Nat := [0, 0, 2, 6, 14, 0, 32, 0, 128, 384, 1022, 2047, 4095, 8191]
theorem change.tab14 : rtab .any (opsOf Tryd.f16 14) = change.T14 := by kernel_rfl
theorem change.bits14 : waitsOk change.T14.2 change.B14 = true := by kernel_rfl
def change.T18 : Bool × List (List Nat × List Nat) := (true, [([], []), ([], []), ([1], [1]), ([2], [2]), ([3], [3]), ([], []), ([], []), ([6], [6]), ([7], [7]), ([4, 5, 8], [4, 5, 8]), ([0, 0, 1, 2, 3, 4, 5, 6, 7, 8, 9], [0]), ([10, 0, 1, 2, 3, 4, 5, 6, 7, 8, 9], [10]), ([11, 9, 9, 0, 1, 2, 3, 4, 5, 6, 7, 8, 9], [9, 11])])
def change.B18 : List Nat := [0, 0, 2, 6, 14, 0, 0, 64, 192, 510, 1023, 2047, 4095]
theorem change.tab18 : rtab .any (opsOf Tryd.f16 18) = change.T18 := by kernel_rfl
theorem change.bits18 : waitsOk change.T18.2 change.B18 = true := by kernel_rfl
/-- What change leaves: the changed family in its block, or an error. -/
def ChangeTo (P : S27) (E : S32) (g base : Nat) (e : Ending) (w' : World) : Prop :=
  match chg P E with
  | some Q => e = .returned (.int .i64 0) ∧ ∃ cs, w'.heap[g]? = some (.cells cs 27 (0, 0)) ∧ Firm w' Q cs.toList
  | none => ∃ k : Int, k ≠ 0 ∧ e = .returned (.int .i64 k)
set_option maxHeartbeats 8000000 in
theorem change_any (P : S27) (E : S32) (g base : Nat) (cs es : List Value) (w : World) (hb : w.heap[g]? = some (.cells cs.toArray 27 (0, 0))) (hM : OwnP w base P cs) (hE : k32.K w E es) (hg : base ≤ g) (hbw : base ≤ w.heap.size)
    (hs : P.f7.Pairwise (· < ·)) (hne : P.f7 ≠ []) (hT : Tame P) (hl : ruleSum E.f2 ≤ 1000000) :
    Calls Tryd.prog 16 #[.pointer (some ⟨g, 0, none⟩), .agg es.toArray] w fun e w' => ChangeTo P E g base e w' ∧ Below base w w' := by
  have HE := Aside0.mk hE
  obtain ⟨A6, c6, A7, c7, A8, c8, A9, c9, A12, c12, A14, c14, A15, c15, A16, c16, rfl, l6, g6, l7, g7, l8, g8, l9, g9, l12, g12, l14, g14, l15, g15, l16, g16⟩ := k32_open hE
  have HRK := Aside0.mk (k30_mk w E.f2 l6 g6 l7 g7 l8 g8 l9 g9 l12 g12 l14 g14 l15 g15 l16 g16)
  clear l6 g6 l7 g7 l8 g8 l9 g9 l12 g12 l14 g14 l15 g15 l16 g16
  obtain ⟨v2, v3, v4, v6, v7, v8, v9, lo2, hi2, lo3, hi3, lo4, hi4, lo6, hi6, lo7, hi7, lo8, hi8, lo9, rfl, m2, m3, m4, m6, m7, m8, m9, o3, o4, o6, o7, o8, o9, le3, le4, le6, le7, le8⟩ := hM
  obtain ⟨B2, d2, hv⟩ := Kd.R_slice m2
  subst hv
  have M2 := Aside0.mk m2
  obtain ⟨B3, d3, hv⟩ := Kd.R_slice m3
  subst hv
  have M3 := Aside0.mk m3
  obtain ⟨B4, d4, hv⟩ := Kd.R_slice m4
  subst hv
  have M4 := Aside0.mk m4
  obtain ⟨B6, d6, hv⟩ := Kd.R_slice m6
  subst hv
  have M6 := Aside0.mk m6
  obtain ⟨B7, d7, hv⟩ := Kd.R_slice m7
  subst hv
  have M7 := Aside0.mk m7
  obtain ⟨B8, d8, hv⟩ := Kd.R_slice m8
  subst hv
  have M8 := Aside0.mk m8
  obtain ⟨B9, d9, hv⟩ := Kd.R_slice m9
  subst hv
  have M9 := Aside0.mk m9
  have HT := Aside0.mk hT
  have HS := Aside0.mk hs
  have HNE := Aside0.mk hne
  have hbg := hb
  have h9 := hT.h9
  have h2 := hT.h2
  have h7 := hT.h7
  have hglt := blk_lt hb
  clear hE m2 m3 m4 m6 m7 m8 m9 hT hs hne
  go_enter Tryd.func16, Tryd.ntmps16
  go_upto_region 1 with (fail)
  obtain ⟨w1, hw1⟩ : ∃ w1, w1 = w.alloc (.cells #[.int .i64 E.f0, .int .i64 E.f1, .string E.f2.f0, .int .i64 E.f2.f1, .int .i64 E.f2.f2, .int .i64 E.f2.f3, .int .i64 E.f2.f4, .int .i64 E.f2.f5, .slice A6 E.f2.f6.length c6, .slice A7 E.f2.f7.length c7, .slice A8 E.f2.f8.length c8, .slice A9 E.f2.f9.length c9, .int .i64 E.f2.f10, .int .i64 E.f2.f11, .slice A12 E.f2.f12.length c12, .int .i64 E.f2.f13, .slice A14 E.f2.f14.length c14, .slice A15 E.f2.f15.length c15, .slice A16 E.f2.f16.length c16, .int .i64 E.f2.f17, .int .i64 E.f3, .string E.f4] 32) := ⟨_, rfl⟩
  rw [← hw1]
  have BE : Aside0 (w1.heap[w.heap.size]? = some (.cells #[.int .i64 E.f0, .int .i64 E.f1, .string E.f2.f0, .int .i64 E.f2.f1, .int .i64 E.f2.f2, .int .i64 E.f2.f3, .int .i64 E.f2.f4, .int .i64 E.f2.f5, .slice A6 E.f2.f6.length c6, .slice A7 E.f2.f7.length c7, .slice A8 E.f2.f8.length c8, .slice A9 E.f2.f9.length c9, .int .i64 E.f2.f10, .int .i64 E.f2.f11, .slice A12 E.f2.f12.length c12, .int .i64 E.f2.f13, .slice A14 E.f2.f14.length c14, .slice A15 E.f2.f15.length c15, .slice A16 E.f2.f16.length c16, .int .i64 E.f2.f17, .int .i64 E.f3, .string E.f4] 32 (0, 0))) := ⟨by rw [hw1]; exact heap_alloc_new _ _⟩
  have BP : Aside0 (w1.heap[g]? = some (.cells #[.string P.f0, .int .i64 P.f1, .slice B2 P.f2.length d2, .slice B3 P.f3.length d3, .slice B4 P.f4.length d4, .int .i64 P.f5, .slice B6 P.f6.length d6, .slice B7 P.f7.length d7, .slice B8 P.f8.length d8, .slice B9 P.f9.length d9] 27 (0, 0))) := ⟨by rw [hw1]; exact blk_alloc hb _⟩
  have HB : Aside0 (Below w.heap.size w w1) := ⟨by rw [hw1]; exact (Below.refl _ _).alloc (Nat.le_refl _) _⟩
  have hgg : g ≠ w.heap.size := by omega
  have hgb : base ≤ w.heap.size := hbw
  clear hw1 hb hbg hglt
  go_cut [5] (fun v5 wc => ∃ m : Bool, v5 = .bool m ∧ Aside0 (m = decide (0 ≤ E.f1 ∧ E.f1 < P.f9.length)) ∧ wc = w1.drew)
  case first =>
    by_cases c : 0 ≤ E.f1
    · have q : decide (0 ≤ E.f1) = true := decide_eq_true c
      have n0_ := Aside0.mk (blk_drew BP.out)
      have n1_ := Aside0.mk (blk_drew BE.out)
      have n2_ := Aside0.mk (below_drew1 HB.out)
      clear BP BE HB
      have BP := n0_
      have BE := n1_
      have HB := n2_
      clear n0_ n1_ n2_
      refine start_ (n := 14) (S := fun w' => w'.cell? ⟨g, 9, none⟩ = some (.slice B9 P.f9.length d9) ∧ w'.cell? ⟨w.heap.size, 1, none⟩ = some (.int .i64 E.f1)) (ds := []) #[false, false, false, false, false, false, false, false, false, false, false, false, false, false] (by kernel_rfl) rfl rfl ⟨(blk_cell BP.out 9).trans rfl, (blk_cell BE.out 1).trans rfl⟩ (fun hHeld => ?_)
      refine with_tabW change.tab1 change.bits1 (fun HT_ HW_ => ?_)
      refine pure_ (i := 0) (N := some 9) (v := ?_) (a' := ?_) #[true, false, false, false, false, false, false, false, false, false, false, false, false, false] rfl rfl (any_of HT_.out (by kernel_rfl)) (fun _ _ _ h => h) (Or.inl ⟨by rfl, ?_⟩) ?_ ?_
      rotate_left
      · intro w'
        go_simp
        with_reducible rfl
      rotate_left
      · simp only [Act.put, List.setIfInBounds_toArray, List.set_cons_zero, List.set_cons_succ, i64_w, i32_w]
        rfl
      refine take_ (i := 1) (N := some 10) (v := ?_) (a' := ?_) #[true, true, false, false, false, false, false, false, false, false, false, false, false, false] rfl rfl (take_ofW HT_.out HW_.out (by kernel_rfl)) (fun _ _ _ h => h) (Or.inl ⟨by rfl, ?_⟩) hHeld ?_ ?_
      rotate_left
      · rintro w' ⟨s0, s1⟩
        go_simp
        with_reducible rfl
      rotate_left
      · simp only [Act.put, List.setIfInBounds_toArray, List.set_cons_zero, List.set_cons_succ, i64_w, i32_w]
        rfl
      refine pure_ (i := 2) (N := some 11) (v := ?_) (a' := ?_) #[true, true, true, false, false, false, false, false, false, false, false, false, false, false] rfl rfl (any_of HT_.out (by kernel_rfl)) (fun _ _ _ h => h) (Or.inl ⟨by rfl, ?_⟩) ?_ ?_
      rotate_left
      · intro w'
        go_simp
        with_reducible rfl
      rotate_left
      · simp only [Act.put, List.setIfInBounds_toArray, List.set_cons_zero, List.set_cons_succ, i64_w, i32_w]
        rfl
      refine pure_ (i := 3) (N := some 12) (v := ?_) (a' := ?_) #[true, true, true, true, false, false, false, false, false, false, false, false, false, false] rfl rfl (any_of HT_.out (by kernel_rfl)) (fun _ _ _ h => h) (Or.inl ⟨by rfl, ?_⟩) ?_ ?_
      rotate_left
      · intro w'
        go_simp
        with_reducible rfl
      rotate_left
      · simp only [Act.put, List.setIfInBounds_toArray, List.set_cons_zero, List.set_cons_succ, i64_w, i32_w]
        rfl
      refine pure_ (i := 4) (N := some 13) (v := ?_) (a' := ?_) #[true, true, true, true, true, false, false, false, false, false, false, false, false, false] rfl rfl (any_of HT_.out (by kernel_rfl)) (fun _ _ _ h => h) (Or.inl ⟨by rfl, ?_⟩) ?_ ?_
      rotate_left
      · intro w'
        go_simp
        with_reducible rfl
      rotate_left
      · simp only [Act.put, List.setIfInBounds_toArray, List.set_cons_zero, List.set_cons_succ, i64_w, i32_w]
        rfl
      refine pure_ (i := 6) (N := some 15) (v := ?_) (a' := ?_) #[true, true, true, true, true, false, true, false, false, false, false, false, false, false] rfl rfl (any_of HT_.out (by kernel_rfl)) (fun _ _ _ h => h) (Or.inl ⟨by rfl, ?_⟩) ?_ ?_
      rotate_left
      · intro w'
        go_simp
        with_reducible rfl
      rotate_left
      · simp only [Act.put, List.setIfInBounds_toArray, List.set_cons_zero, List.set_cons_succ, i64_w, i32_w]
        rfl
      refine pure_ (i := 7) (N := some 16) (v := ?_) (a' := ?_) #[true, true, true, true, true, false, true, true, false, false, false, false, false, false] rfl rfl (any_of HT_.out (by kernel_rfl)) (fun _ _ _ h => h) (Or.inl ⟨by rfl, ?_⟩) ?_ ?_
      rotate_left
      · intro w'
        go_simp
        with_reducible rfl
      rotate_left
      · simp only [Act.put, List.setIfInBounds_toArray, List.set_cons_zero, List.set_cons_succ, i64_w, i32_w]
        rfl
      refine pure_ (i := 8) (N := some 17) (v := ?_) (a' := ?_) #[true, true, true, true, true, false, true, true, true, false, false, false, false, false] rfl rfl (any_of HT_.out (by kernel_rfl)) (fun _ _ _ h => h) (Or.inl ⟨by rfl, ?_⟩) ?_ ?_
      rotate_left
      · intro w'
        go_simp
        with_reducible rfl
      rotate_left
      · simp only [Act.put, List.setIfInBounds_toArray, List.set_cons_zero, List.set_cons_succ, i64_w, i32_w]
        rfl
      refine take_ (i := 5) (N := some 14) (v := ?_) (a' := ?_) #[true, true, true, true, true, true, true, true, true, false, false, false, false, false] rfl rfl (take_ofW HT_.out HW_.out (by kernel_rfl)) (fun _ _ _ h => h) (Or.inl ⟨by rfl, ?_⟩) hHeld ?_ ?_
      rotate_left
      · rintro w' ⟨s0, s1⟩
        go_simp
        with_reducible rfl
      rotate_left
      · simp only [Act.put, List.setIfInBounds_toArray, List.set_cons_zero, List.set_cons_succ, i64_w, i32_w]
        rfl
      refine take_ (i := 9) (N := some 18) (v := ?_) (a' := ?_) #[true, true, true, true, true, true, true, true, true, true, false, false, false, false] rfl rfl (take_ofW HT_.out HW_.out (by kernel_rfl)) (fun _ _ _ h => h) (Or.inl ⟨by rfl, ?_⟩) hHeld ?_ ?_
      rotate_left
      · rintro w' ⟨s0, s1⟩
        go_simp
        with_reducible rfl
      rotate_left
      · simp only [Act.put, List.setIfInBounds_toArray, List.set_cons_zero, List.set_cons_succ, i64_w, i32_w]
        rfl
      refine pure_ (i := 10) (N := some 19) (v := ?_) (a' := ?_) #[true, true, true, true, true, true, true, true, true, true, true, false, false, false] rfl rfl (any_of HT_.out (by kernel_rfl)) (fun _ _ _ h => h) (Or.inl ⟨by rfl, ?_⟩) ?_ ?_
      rotate_left
      · intro w'
        go_simp
        with_reducible rfl
      rotate_left
      · simp only [Act.put, List.setIfInBounds_toArray, List.set_cons_zero, List.set_cons_succ, i64_w, i32_w]
        rfl
      refine pure_ (i := 11) (N := some 20) (v := ?_) (a' := ?_) #[true, true, true, true, true, true, true, true, true, true, true, true, false, false] rfl rfl (any_of HT_.out (by kernel_rfl)) (fun _ _ _ h => h) (Or.inl ⟨by rfl, ?_⟩) ?_ ?_
      rotate_left
      · intro w'
        go_simp
        with_reducible rfl
      rotate_left
      · simp only [Act.put, List.setIfInBounds_toArray, List.set_cons_zero, List.set_cons_succ, i64_w, i32_w]
        rfl
      refine pure_ (i := 12) (N := some 21) (v := ?_) (a' := ?_) #[true, true, true, true, true, true, true, true, true, true, true, true, true, false] rfl rfl (any_of HT_.out (by kernel_rfl)) (fun _ _ _ h => h) (Or.inl ⟨by rfl, ?_⟩) ?_ ?_
      rotate_left
      · intro w'
        go_simp
        with_reducible rfl
      rotate_left
      · simp only [Act.put, List.setIfInBounds_toArray, List.set_cons_zero, List.set_cons_succ, i64_w, i32_w]
        rfl
      refine pure_ (i := 13) (N := some 5) (v := ?_) (a' := ?_) #[true, true, true, true, true, true, true, true, true, true, true, true, true, true] rfl rfl (any_of HT_.out (by kernel_rfl)) (fun _ _ _ h => h) (Or.inl ⟨by rfl, ?_⟩) ?_ ?_
      rotate_left
      · intro w'
        go_simp
        with_reducible rfl
      rotate_left
      · simp only [Act.put, List.setIfInBounds_toArray, List.set_cons_zero, List.set_cons_succ, i64_w, i32_w]
        rfl
      refine done_ (done_of HT_.out (by kernel_rfl)) ?_
      go_wp2_with fail
      go_meet
      exact ⟨_, rfl, ⟨by simp [c]⟩, rfl⟩
    · have q : decide (0 ≤ E.f1) = false := decide_eq_false c
      have n0_ := Aside0.mk (blk_drew BP.out)
      have n1_ := Aside0.mk (blk_drew BE.out)
      have n2_ := Aside0.mk (below_drew1 HB.out)
      clear BP BE HB
      have BP := n0_
      have BE := n1_
      have HB := n2_
      clear n0_ n1_ n2_
      refine start_ (n := 14) (S := fun w' => w'.cell? ⟨g, 9, none⟩ = some (.slice B9 P.f9.length d9) ∧ w'.cell? ⟨w.heap.size, 1, none⟩ = some (.int .i64 E.f1)) (ds := []) #[false, false, false, false, false, false, false, false, false, false, false, false, false, false] (by kernel_rfl) rfl rfl ⟨(blk_cell BP.out 9).trans rfl, (blk_cell BE.out 1).trans rfl⟩ (fun hHeld => ?_)
      refine with_tabW change.tab1 change.bits1 (fun HT_ HW_ => ?_)
      refine pure_ (i := 0) (N := some 9) (v := ?_) (a' := ?_) #[true, false, false, false, false, false, false, false, false, false, false, false, false, false] rfl rfl (any_of HT_.out (by kernel_rfl)) (fun _ _ _ h => h) (Or.inl ⟨by rfl, ?_⟩) ?_ ?_
      rotate_left
      · intro w'
        go_simp
        with_reducible rfl
      rotate_left
      · simp only [Act.put, List.setIfInBounds_toArray, List.set_cons_zero, List.set_cons_succ, i64_w, i32_w]
        rfl
      refine take_ (i := 1) (N := some 10) (v := ?_) (a' := ?_) #[true, true, false, false, false, false, false, false, false, false, false, false, false, false] rfl rfl (take_ofW HT_.out HW_.out (by kernel_rfl)) (fun _ _ _ h => h) (Or.inl ⟨by rfl, ?_⟩) hHeld ?_ ?_
      rotate_left
      · rintro w' ⟨s0, s1⟩
        go_simp
        with_reducible rfl
      rotate_left
      · simp only [Act.put, List.setIfInBounds_toArray, List.set_cons_zero, List.set_cons_succ, i64_w, i32_w]
        rfl
      refine pure_ (i := 2) (N := some 11) (v := ?_) (a' := ?_) #[true, true, true, false, false, false, false, false, false, false, false, false, false, false] rfl rfl (any_of HT_.out (by kernel_rfl)) (fun _ _ _ h => h) (Or.inl ⟨by rfl, ?_⟩) ?_ ?_
      rotate_left
      · intro w'
        go_simp
        with_reducible rfl
      rotate_left
      · simp only [Act.put, List.setIfInBounds_toArray, List.set_cons_zero, List.set_cons_succ, i64_w, i32_w]
        rfl
      refine pure_ (i := 3) (N := some 12) (v := ?_) (a' := ?_) #[true, true, true, true, false, false, false, false, false, false, false, false, false, false] rfl rfl (any_of HT_.out (by kernel_rfl)) (fun _ _ _ h => h) (Or.inl ⟨by rfl, ?_⟩) ?_ ?_
      rotate_left
      · intro w'
        go_simp
        with_reducible rfl
      rotate_left
      · simp only [Act.put, List.setIfInBounds_toArray, List.set_cons_zero, List.set_cons_succ, i64_w, i32_w]
        rfl
      refine pure_ (i := 4) (N := some 13) (v := undef) (a' := ?_) #[true, true, true, true, true, false, false, false, false, false, false, false, false, false] rfl rfl (any_of HT_.out (by kernel_rfl)) (fun _ _ _ h => h) (Or.inr ⟨by rfl, rfl⟩) ?_ ?_
      rotate_left
      · simp only [Act.put, List.setIfInBounds_toArray, List.set_cons_zero, List.set_cons_succ, i64_w, i32_w]
        rfl
      refine pure_ (i := 5) (N := some 14) (v := undef) (a' := ?_) #[true, true, true, true, true, true, false, false, false, false, false, false, false, false] rfl rfl (any_of HT_.out (by kernel_rfl)) (fun _ _ _ h => h) (Or.inr ⟨by rfl, rfl⟩) ?_ ?_
      rotate_left
      · simp only [Act.put, List.setIfInBounds_toArray, List.set_cons_zero, List.set_cons_succ, i64_w, i32_w]
        rfl
      refine pure_ (i := 6) (N := some 15) (v := undef) (a' := ?_) #[true, true, true, true, true, true, true, false, false, false, false, false, false, false] rfl rfl (any_of HT_.out (by kernel_rfl)) (fun _ _ _ h => h) (Or.inr ⟨by rfl, rfl⟩) ?_ ?_
      rotate_left
      · simp only [Act.put, List.setIfInBounds_toArray, List.set_cons_zero, List.set_cons_succ, i64_w, i32_w]
        rfl
      refine pure_ (i := 7) (N := some 16) (v := undef) (a' := ?_) #[true, true, true, true, true, true, true, true, false, false, false, false, false, false] rfl rfl (any_of HT_.out (by kernel_rfl)) (fun _ _ _ h => h) (Or.inr ⟨by rfl, rfl⟩) ?_ ?_
      rotate_left
      · simp only [Act.put, List.setIfInBounds_toArray, List.set_cons_zero, List.set_cons_succ, i64_w, i32_w]
        rfl
      refine pure_ (i := 8) (N := some 17) (v := undef) (a' := ?_) #[true, true, true, true, true, true, true, true, true, false, false, false, false, false] rfl rfl (any_of HT_.out (by kernel_rfl)) (fun _ _ _ h => h) (Or.inr ⟨by rfl, rfl⟩) ?_ ?_
      rotate_left
      · simp only [Act.put, List.setIfInBounds_toArray, List.set_cons_zero, List.set_cons_succ, i64_w, i32_w]
        rfl
      refine pure_ (i := 9) (N := some 18) (v := undef) (a' := ?_) #[true, true, true, true, true, true, true, true, true, true, false, false, false, false] rfl rfl (any_of HT_.out (by kernel_rfl)) (fun _ _ _ h => h) (Or.inr ⟨by rfl, rfl⟩) ?_ ?_
      rotate_left
      · simp only [Act.put, List.setIfInBounds_toArray, List.set_cons_zero, List.set_cons_succ, i64_w, i32_w]
        rfl
      refine pure_ (i := 10) (N := some 19) (v := undef) (a' := ?_) #[true, true, true, true, true, true, true, true, true, true, true, false, false, false] rfl rfl (any_of HT_.out (by kernel_rfl)) (fun _ _ _ h => h) (Or.inr ⟨by rfl, rfl⟩) ?_ ?_
      rotate_left
      · simp only [Act.put, List.setIfInBounds_toArray, List.set_cons_zero, List.set_cons_succ, i64_w, i32_w]
        rfl
      refine pure_ (i := 11) (N := some 20) (v := undef) (a' := ?_) #[true, true, true, true, true, true, true, true, true, true, true, true, false, false] rfl rfl (any_of HT_.out (by kernel_rfl)) (fun _ _ _ h => h) (Or.inr ⟨by rfl, rfl⟩) ?_ ?_
      rotate_left
      · simp only [Act.put, List.setIfInBounds_toArray, List.set_cons_zero, List.set_cons_succ, i64_w, i32_w]
        rfl
      refine pure_ (i := 12) (N := some 21) (v := ?_) (a' := ?_) #[true, true, true, true, true, true, true, true, true, true, true, true, true, false] rfl rfl (any_of HT_.out (by kernel_rfl)) (fun _ _ _ h => h) (Or.inl ⟨by rfl, ?_⟩) ?_ ?_
      rotate_left
      · intro w'
        go_simp
        with_reducible rfl
      rotate_left
      · simp only [Act.put, List.setIfInBounds_toArray, List.set_cons_zero, List.set_cons_succ, i64_w, i32_w]
        rfl
      refine pure_ (i := 13) (N := some 5) (v := ?_) (a' := ?_) #[true, true, true, true, true, true, true, true, true, true, true, true, true, true] rfl rfl (any_of HT_.out (by kernel_rfl)) (fun _ _ _ h => h) (Or.inl ⟨by rfl, ?_⟩) ?_ ?_
      rotate_left
      · intro w'
        go_simp
        with_reducible rfl
      rotate_left
      · simp only [Act.put, List.setIfInBounds_toArray, List.set_cons_zero, List.set_cons_succ, i64_w, i32_w]
        rfl
      refine done_ (done_of HT_.out (by kernel_rfl)) ?_
      go_wp2_with fail
      go_meet
      exact ⟨false, rfl, ⟨by simp; omega⟩, rfl⟩
  case rest =>
  obtain ⟨m5, rfl, HM5, hwc⟩ := hcut
  have BP := Aside0.mk (blk_drew BP.out)
  have BE := Aside0.mk (blk_drew BE.out)
  have HB := Aside0.mk (below_drew1 HB.out)
  rw [← hwc] at BP BE HB
  obtain ⟨w2, hw2⟩ : ∃ w2, w2 = wc := ⟨_, rfl⟩
  rw [← hw2] at BP BE HB ⊢
  clear hwc hw2
  go_upto_region 2 with (fail)
  go_cut [6] (fun v6 wc => ∃ m : Bool, v6 = .bool m ∧ Aside0 (m = decide (0 ≤ E.f3 ∧ E.f3 < P.f2.length)) ∧ wc = w2.drew)
  case first =>
    by_cases c : 0 ≤ E.f3
    · have q : decide (0 ≤ E.f3) = true := decide_eq_true c
      have n0_ := Aside0.mk (blk_drew BP.out)
      have n1_ := Aside0.mk (blk_drew BE.out)
      have n2_ := Aside0.mk (below_drew1 HB.out)
      clear BP BE HB
      have BP := n0_
      have BE := n1_
      have HB := n2_
      clear n0_ n1_ n2_
      refine start_ (n := 14) (S := fun w' => w'.cell? ⟨g, 2, none⟩ = some (.slice B2 P.f2.length d2) ∧ w'.cell? ⟨w.heap.size, 20, none⟩ = some (.int .i64 E.f3)) (ds := []) #[false, false, false, false, false, false, false, false, false, false, false, false, false, false] (by kernel_rfl) rfl rfl ⟨(blk_cell BP.out 2).trans rfl, (blk_cell BE.out 20).trans rfl⟩ (fun hHeld => ?_)
      refine with_tabW change.tab2 change.bits2 (fun HT_ HW_ => ?_)
      refine pure_ (i := 0) (N := some 22) (v := ?_) (a' := ?_) #[true, false, false, false, false, false, false, false, false, false, false, false, false, false] rfl rfl (any_of HT_.out (by kernel_rfl)) (fun _ _ _ h => h) (Or.inl ⟨by rfl, ?_⟩) ?_ ?_
      rotate_left
      · intro w'
        go_simp
        with_reducible rfl
      rotate_left
      · simp only [Act.put, List.setIfInBounds_toArray, List.set_cons_zero, List.set_cons_succ, i64_w, i32_w]
        rfl
      refine take_ (i := 1) (N := some 23) (v := ?_) (a' := ?_) #[true, true, false, false, false, false, false, false, false, false, false, false, false, false] rfl rfl (take_ofW HT_.out HW_.out (by kernel_rfl)) (fun _ _ _ h => h) (Or.inl ⟨by rfl, ?_⟩) hHeld ?_ ?_
      rotate_left
      · rintro w' ⟨s0, s1⟩
        go_simp
        with_reducible rfl
      rotate_left
      · simp only [Act.put, List.setIfInBounds_toArray, List.set_cons_zero, List.set_cons_succ, i64_w, i32_w]
        rfl
      refine pure_ (i := 2) (N := some 24) (v := ?_) (a' := ?_) #[true, true, true, false, false, false, false, false, false, false, false, false, false, false] rfl rfl (any_of HT_.out (by kernel_rfl)) (fun _ _ _ h => h) (Or.inl ⟨by rfl, ?_⟩) ?_ ?_
      rotate_left
      · intro w'
        go_simp
        with_reducible rfl
      rotate_left
      · simp only [Act.put, List.setIfInBounds_toArray, List.set_cons_zero, List.set_cons_succ, i64_w, i32_w]
        rfl
      refine pure_ (i := 3) (N := some 25) (v := ?_) (a' := ?_) #[true, true, true, true, false, false, false, false, false, false, false, false, false, false] rfl rfl (any_of HT_.out (by kernel_rfl)) (fun _ _ _ h => h) (Or.inl ⟨by rfl, ?_⟩) ?_ ?_
      rotate_left
      · intro w'
        go_simp
        with_reducible rfl
      rotate_left
      · simp only [Act.put, List.setIfInBounds_toArray, List.set_cons_zero, List.set_cons_succ, i64_w, i32_w]
        rfl
      refine pure_ (i := 4) (N := some 26) (v := ?_) (a' := ?_) #[true, true, true, true, true, false, false, false, false, false, false, false, false, false] rfl rfl (any_of HT_.out (by kernel_rfl)) (fun _ _ _ h => h) (Or.inl ⟨by rfl, ?_⟩) ?_ ?_
      rotate_left
      · intro w'
        go_simp
        with_reducible rfl
      rotate_left
      · simp only [Act.put, List.setIfInBounds_toArray, List.set_cons_zero, List.set_cons_succ, i64_w, i32_w]
        rfl
      refine pure_ (i := 6) (N := some 28) (v := ?_) (a' := ?_) #[true, true, true, true, true, false, true, false, false, false, false, false, false, false] rfl rfl (any_of HT_.out (by kernel_rfl)) (fun _ _ _ h => h) (Or.inl ⟨by rfl, ?_⟩) ?_ ?_
      rotate_left
      · intro w'
        go_simp
        with_reducible rfl
      rotate_left
      · simp only [Act.put, List.setIfInBounds_toArray, List.set_cons_zero, List.set_cons_succ, i64_w, i32_w]
        rfl
      refine pure_ (i := 7) (N := some 29) (v := ?_) (a' := ?_) #[true, true, true, true, true, false, true, true, false, false, false, false, false, false] rfl rfl (any_of HT_.out (by kernel_rfl)) (fun _ _ _ h => h) (Or.inl ⟨by rfl, ?_⟩) ?_ ?_
      rotate_left
      · intro w'
        go_simp
        with_reducible rfl
      rotate_left
      · simp only [Act.put, List.setIfInBounds_toArray, List.set_cons_zero, List.set_cons_succ, i64_w, i32_w]
        rfl
      refine pure_ (i := 8) (N := some 30) (v := ?_) (a' := ?_) #[true, true, true, true, true, false, true, true, true, false, false, false, false, false] rfl rfl (any_of HT_.out (by kernel_rfl)) (fun _ _ _ h => h) (Or.inl ⟨by rfl, ?_⟩) ?_ ?_
      rotate_left
      · intro w'
        go_simp
        with_reducible rfl
      rotate_left
      · simp only [Act.put, List.setIfInBounds_toArray, List.set_cons_zero, List.set_cons_succ, i64_w, i32_w]
        rfl
      refine take_ (i := 5) (N := some 27) (v := ?_) (a' := ?_) #[true, true, true, true, true, true, true, true, true, false, false, false, false, false] rfl rfl (take_ofW HT_.out HW_.out (by kernel_rfl)) (fun _ _ _ h => h) (Or.inl ⟨by rfl, ?_⟩) hHeld ?_ ?_
      rotate_left
      · rintro w' ⟨s0, s1⟩
        go_simp
        with_reducible rfl
      rotate_left
      · simp only [Act.put, List.setIfInBounds_toArray, List.set_cons_zero, List.set_cons_succ, i64_w, i32_w]
        rfl
      refine take_ (i := 9) (N := some 31) (v := ?_) (a' := ?_) #[true, true, true, true, true, true, true, true, true, true, false, false, false, false] rfl rfl (take_ofW HT_.out HW_.out (by kernel_rfl)) (fun _ _ _ h => h) (Or.inl ⟨by rfl, ?_⟩) hHeld ?_ ?_
      rotate_left
      · rintro w' ⟨s0, s1⟩
        go_simp
        with_reducible rfl
      rotate_left
      · simp only [Act.put, List.setIfInBounds_toArray, List.set_cons_zero, List.set_cons_succ, i64_w, i32_w]
        rfl
      refine pure_ (i := 10) (N := some 32) (v := ?_) (a' := ?_) #[true, true, true, true, true, true, true, true, true, true, true, false, false, false] rfl rfl (any_of HT_.out (by kernel_rfl)) (fun _ _ _ h => h) (Or.inl ⟨by rfl, ?_⟩) ?_ ?_
      rotate_left
      · intro w'
        go_simp
        with_reducible rfl
      rotate_left
      · simp only [Act.put, List.setIfInBounds_toArray, List.set_cons_zero, List.set_cons_succ, i64_w, i32_w]
        rfl
      refine pure_ (i := 11) (N := some 33) (v := ?_) (a' := ?_) #[true, true, true, true, true, true, true, true, true, true, true, true, false, false] rfl rfl (any_of HT_.out (by kernel_rfl)) (fun _ _ _ h => h) (Or.inl ⟨by rfl, ?_⟩) ?_ ?_
      rotate_left
      · intro w'
        go_simp
        with_reducible rfl
      rotate_left
      · simp only [Act.put, List.setIfInBounds_toArray, List.set_cons_zero, List.set_cons_succ, i64_w, i32_w]
        rfl
      refine pure_ (i := 12) (N := some 34) (v := ?_) (a' := ?_) #[true, true, true, true, true, true, true, true, true, true, true, true, true, false] rfl rfl (any_of HT_.out (by kernel_rfl)) (fun _ _ _ h => h) (Or.inl ⟨by rfl, ?_⟩) ?_ ?_
      rotate_left
      · intro w'
        go_simp
        with_reducible rfl
      rotate_left
      · simp only [Act.put, List.setIfInBounds_toArray, List.set_cons_zero, List.set_cons_succ, i64_w, i32_w]
        rfl
      refine pure_ (i := 13) (N := some 6) (v := ?_) (a' := ?_) #[true, true, true, true, true, true, true, true, true, true, true, true, true, true] rfl rfl (any_of HT_.out (by kernel_rfl)) (fun _ _ _ h => h) (Or.inl ⟨by rfl, ?_⟩) ?_ ?_
      rotate_left
      · intro w'
        go_simp
        with_reducible rfl
      rotate_left
      · simp only [Act.put, List.setIfInBounds_toArray, List.set_cons_zero, List.set_cons_succ, i64_w, i32_w]
        rfl
      refine done_ (done_of HT_.out (by kernel_rfl)) ?_
      go_wp2_with fail
      go_meet
      exact ⟨_, rfl, ⟨by simp [c]⟩, rfl⟩
    · have q : decide (0 ≤ E.f3) = false := decide_eq_false c
      have n0_ := Aside0.mk (blk_drew BP.out)
      have n1_ := Aside0.mk (blk_drew BE.out)
      have n2_ := Aside0.mk (below_drew1 HB.out)
      clear BP BE HB
      have BP := n0_
      have BE := n1_
      have HB := n2_
      clear n0_ n1_ n2_
      refine start_ (n := 14) (S := fun w' => w'.cell? ⟨g, 2, none⟩ = some (.slice B2 P.f2.length d2) ∧ w'.cell? ⟨w.heap.size, 20, none⟩ = some (.int .i64 E.f3)) (ds := []) #[false, false, false, false, false, false, false, false, false, false, false, false, false, false] (by kernel_rfl) rfl rfl ⟨(blk_cell BP.out 2).trans rfl, (blk_cell BE.out 20).trans rfl⟩ (fun hHeld => ?_)
      refine with_tabW change.tab2 change.bits2 (fun HT_ HW_ => ?_)
      refine pure_ (i := 0) (N := some 22) (v := ?_) (a' := ?_) #[true, false, false, false, false, false, false, false, false, false, false, false, false, false] rfl rfl (any_of HT_.out (by kernel_rfl)) (fun _ _ _ h => h) (Or.inl ⟨by rfl, ?_⟩) ?_ ?_
      rotate_left
      · intro w'
        go_simp
        with_reducible rfl
      rotate_left
      · simp only [Act.put, List.setIfInBounds_toArray, List.set_cons_zero, List.set_cons_succ, i64_w, i32_w]
        rfl
      refine take_ (i := 1) (N := some 23) (v := ?_) (a' := ?_) #[true, true, false, false, false, false, false, false, false, false, false, false, false, false] rfl rfl (take_ofW HT_.out HW_.out (by kernel_rfl)) (fun _ _ _ h => h) (Or.inl ⟨by rfl, ?_⟩) hHeld ?_ ?_
      rotate_left
      · rintro w' ⟨s0, s1⟩
        go_simp
        with_reducible rfl
      rotate_left
      · simp only [Act.put, List.setIfInBounds_toArray, List.set_cons_zero, List.set_cons_succ, i64_w, i32_w]
        rfl
      refine pure_ (i := 2) (N := some 24) (v := ?_) (a' := ?_) #[true, true, true, false, false, false, false, false, false, false, false, false, false, false] rfl rfl (any_of HT_.out (by kernel_rfl)) (fun _ _ _ h => h) (Or.inl ⟨by rfl, ?_⟩) ?_ ?_
      rotate_left
      · intro w'
        go_simp
        with_reducible rfl
      rotate_left
      · simp only [Act.put, List.setIfInBounds_toArray, List.set_cons_zero, List.set_cons_succ, i64_w, i32_w]
        rfl
      refine pure_ (i := 3) (N := some 25) (v := ?_) (a' := ?_) #[true, true, true, true, false, false, false, false, false, false, false, false, false, false] rfl rfl (any_of HT_.out (by kernel_rfl)) (fun _ _ _ h => h) (Or.inl ⟨by rfl, ?_⟩) ?_ ?_
      rotate_left
      · intro w'
        go_simp
        with_reducible rfl
      rotate_left
      · simp only [Act.put, List.setIfInBounds_toArray, List.set_cons_zero, List.set_cons_succ, i64_w, i32_w]
        rfl
      refine pure_ (i := 4) (N := some 26) (v := undef) (a' := ?_) #[true, true, true, true, true, false, false, false, false, false, false, false, false, false] rfl rfl (any_of HT_.out (by kernel_rfl)) (fun _ _ _ h => h) (Or.inr ⟨by rfl, rfl⟩) ?_ ?_
      rotate_left
      · simp only [Act.put, List.setIfInBounds_toArray, List.set_cons_zero, List.set_cons_succ, i64_w, i32_w]
        rfl
      refine pure_ (i := 5) (N := some 27) (v := undef) (a' := ?_) #[true, true, true, true, true, true, false, false, false, false, false, false, false, false] rfl rfl (any_of HT_.out (by kernel_rfl)) (fun _ _ _ h => h) (Or.inr ⟨by rfl, rfl⟩) ?_ ?_
      rotate_left
      · simp only [Act.put, List.setIfInBounds_toArray, List.set_cons_zero, List.set_cons_succ, i64_w, i32_w]
        rfl
      refine pure_ (i := 6) (N := some 28) (v := undef) (a' := ?_) #[true, true, true, true, true, true, true, false, false, false, false, false, false, false] rfl rfl (any_of HT_.out (by kernel_rfl)) (fun _ _ _ h => h) (Or.inr ⟨by rfl, rfl⟩) ?_ ?_
      rotate_left
      · simp only [Act.put, List.setIfInBounds_toArray, List.set_cons_zero, List.set_cons_succ, i64_w, i32_w]
        rfl
      refine pure_ (i := 7) (N := some 29) (v := undef) (a' := ?_) #[true, true, true, true, true, true, true, true, false, false, false, false, false, false] rfl rfl (any_of HT_.out (by kernel_rfl)) (fun _ _ _ h => h) (Or.inr ⟨by rfl, rfl⟩) ?_ ?_
      rotate_left
      · simp only [Act.put, List.setIfInBounds_toArray, List.set_cons_zero, List.set_cons_succ, i64_w, i32_w]
        rfl
      refine pure_ (i := 8) (N := some 30) (v := undef) (a' := ?_) #[true, true, true, true, true, true, true, true, true, false, false, false, false, false] rfl rfl (any_of HT_.out (by kernel_rfl)) (fun _ _ _ h => h) (Or.inr ⟨by rfl, rfl⟩) ?_ ?_
      rotate_left
      · simp only [Act.put, List.setIfInBounds_toArray, List.set_cons_zero, List.set_cons_succ, i64_w, i32_w]
        rfl
      refine pure_ (i := 9) (N := some 31) (v := undef) (a' := ?_) #[true, true, true, true, true, true, true, true, true, true, false, false, false, false] rfl rfl (any_of HT_.out (by kernel_rfl)) (fun _ _ _ h => h) (Or.inr ⟨by rfl, rfl⟩) ?_ ?_
      rotate_left
      · simp only [Act.put, List.setIfInBounds_toArray, List.set_cons_zero, List.set_cons_succ, i64_w, i32_w]
        rfl
      refine pure_ (i := 10) (N := some 32) (v := undef) (a' := ?_) #[true, true, true, true, true, true, true, true, true, true, true, false, false, false] rfl rfl (any_of HT_.out (by kernel_rfl)) (fun _ _ _ h => h) (Or.inr ⟨by rfl, rfl⟩) ?_ ?_
      rotate_left
      · simp only [Act.put, List.setIfInBounds_toArray, List.set_cons_zero, List.set_cons_succ, i64_w, i32_w]
        rfl
      refine pure_ (i := 11) (N := some 33) (v := undef) (a' := ?_) #[true, true, true, true, true, true, true, true, true, true, true, true, false, false] rfl rfl (any_of HT_.out (by kernel_rfl)) (fun _ _ _ h => h) (Or.inr ⟨by rfl, rfl⟩) ?_ ?_
      rotate_left
      · simp only [Act.put, List.setIfInBounds_toArray, List.set_cons_zero, List.set_cons_succ, i64_w, i32_w]
        rfl
      refine pure_ (i := 12) (N := some 34) (v := ?_) (a' := ?_) #[true, true, true, true, true, true, true, true, true, true, true, true, true, false] rfl rfl (any_of HT_.out (by kernel_rfl)) (fun _ _ _ h => h) (Or.inl ⟨by rfl, ?_⟩) ?_ ?_
      rotate_left
      · intro w'
        go_simp
        with_reducible rfl
      rotate_left
      · simp only [Act.put, List.setIfInBounds_toArray, List.set_cons_zero, List.set_cons_succ, i64_w, i32_w]
        rfl
      refine pure_ (i := 13) (N := some 6) (v := ?_) (a' := ?_) #[true, true, true, true, true, true, true, true, true, true, true, true, true, true] rfl rfl (any_of HT_.out (by kernel_rfl)) (fun _ _ _ h => h) (Or.inl ⟨by rfl, ?_⟩) ?_ ?_
      rotate_left
      · intro w'
        go_simp
        with_reducible rfl
      rotate_left
      · simp only [Act.put, List.setIfInBounds_toArray, List.set_cons_zero, List.set_cons_succ, i64_w, i32_w]
        rfl
      refine done_ (done_of HT_.out (by kernel_rfl)) ?_
      go_wp2_with fail
      go_meet
      exact ⟨false, rfl, ⟨by simp; omega⟩, rfl⟩
  case rest =>
  obtain ⟨m6, rfl, HM6, hwc⟩ := hcut
  have BP := Aside0.mk (blk_drew BP.out)
  have BE := Aside0.mk (blk_drew BE.out)
  have HB := Aside0.mk (below_drew1 HB.out)
  rw [← hwc] at BP BE HB
  obtain ⟨w3, hw2⟩ : ∃ w3, w3 = wc := ⟨_, rfl⟩
  rw [← hw2] at BP BE HB ⊢
  clear hwc hw2
  obtain ⟨g7, hg7⟩ : ∃ g7, B7 = some ⟨g7, 0, none⟩ := by
    obtain ⟨inner, ho⟩ := Kd.R_own M7.out
    rcases ho.2 with ⟨h, h0⟩ | ⟨q, cap, cur, h, _⟩
    · exact absurd (List.eq_nil_of_length_eq_zero h0) HNE.out
    · injection h with h1
      exact ⟨q, h1⟩
  subst hg7
  have HC7 : Aside0 (∀ W, Below w.heap.size w W → ∀ j, j < P.f7.length → W.cell? ⟨g7, 0 + j, none⟩ = some (.int .i64 (P.f7.getD j 0))) := ⟨fun W hW j hj => by
    obtain ⟨ad, he, hx⟩ := at_I (Kd.C_below (Kd.R_reads' M7.out).2.2 hW) j hj
    obtain rfl := Option.some.inj he
    rw [Nat.zero_add]
    simpa [Addr.add_lit] using hx⟩
  have HSS : Aside0 ((P.f7.take P.f7.length).Pairwise (· ≤ ·)) := ⟨by rw [List.take_length]; exact HS.out.imp (fun h => Int.le_of_lt h)⟩
  go_upto_region 3 with (fail)
  go_cut [7, 8] (fun v7 v8 wc => v7 = .int .i64 (posIn P.f7 E.f3 : Nat) ∧ (∃ m : Bool, v8 = .bool m ∧ Aside0 (m = P.f7.contains E.f3)) ∧ ∃ n, wc = w3.drew.drewN n)
  case first =>
    have n0_ := Aside0.mk (blk_drew BP.out)
    have n1_ := Aside0.mk (blk_drew BE.out)
    have n2_ := Aside0.mk (below_drew1 HB.out)
    clear BP BE HB
    have BP := n0_
    have BE := n1_
    have HB := n2_
    clear n0_ n1_ n2_
    refine start_ (n := 12) (S := fun w' => w'.cell? ⟨g, 7, none⟩ = some (.slice (some ⟨g7, 0, none⟩) P.f7.length d7) ∧ w'.cell? ⟨w.heap.size, 20, none⟩ = some (.int .i64 E.f3)) (ds := []) #[false, false, false, false, false, false, false, false, false, false, false, false] (by kernel_rfl) rfl rfl ⟨(blk_cell BP.out 7).trans rfl, (blk_cell BE.out 20).trans rfl⟩ (fun hHeld => ?_)
    refine with_tabW change.tab3 change.bits3 (fun HT_ HW_ => ?_)
    refine pure_ (i := 0) (N := some 36) (v := ?_) (a' := ?_) #[true, false, false, false, false, false, false, false, false, false, false, false] rfl rfl (any_of HT_.out (by kernel_rfl)) (fun _ _ _ h => h) (Or.inl ⟨by rfl, ?_⟩) ?_ ?_
    rotate_left
    · intro w'
      go_simp
      with_reducible rfl
    rotate_left
    · simp only [Act.put, List.setIfInBounds_toArray, List.set_cons_zero, List.set_cons_succ, i64_w, i32_w]
      rfl
    refine pure_ (i := 1) (N := some 37) (v := ?_) (a' := ?_) #[true, true, false, false, false, false, false, false, false, false, false, false] rfl rfl (any_of HT_.out (by kernel_rfl)) (fun _ _ _ h => h) (Or.inl ⟨by rfl, ?_⟩) ?_ ?_
    rotate_left
    · intro w'
      go_simp
      with_reducible rfl
    rotate_left
    · simp only [Act.put, List.setIfInBounds_toArray, List.set_cons_zero, List.set_cons_succ, i64_w, i32_w]
      rfl
    refine pure_ (i := 2) (N := some 38) (v := ?_) (a' := ?_) #[true, true, true, false, false, false, false, false, false, false, false, false] rfl rfl (any_of HT_.out (by kernel_rfl)) (fun _ _ _ h => h) (Or.inl ⟨by rfl, ?_⟩) ?_ ?_
    rotate_left
    · intro w'
      go_simp
      with_reducible rfl
    rotate_left
    · simp only [Act.put, List.setIfInBounds_toArray, List.set_cons_zero, List.set_cons_succ, i64_w, i32_w]
      rfl
    refine pure_ (i := 4) (N := some 40) (v := ?_) (a' := ?_) #[true, true, true, false, true, false, false, false, false, false, false, false] rfl rfl (any_of HT_.out (by kernel_rfl)) (fun _ _ _ h => h) (Or.inl ⟨by rfl, ?_⟩) ?_ ?_
    rotate_left
    · intro w'
      go_simp
      with_reducible rfl
    rotate_left
    · simp only [Act.put, List.setIfInBounds_toArray, List.set_cons_zero, List.set_cons_succ, i64_w, i32_w]
      rfl
    refine take_ (i := 3) (N := some 39) (v := ?_) (a' := ?_) #[true, true, true, true, true, false, false, false, false, false, false, false] rfl rfl (take_ofW HT_.out HW_.out (by kernel_rfl)) (fun _ _ _ h => h) (Or.inl ⟨by rfl, ?_⟩) hHeld ?_ ?_
    rotate_left
    · rintro w' ⟨s0, s1⟩
      go_simp
      with_reducible rfl
    rotate_left
    · simp only [Act.put, List.setIfInBounds_toArray, List.set_cons_zero, List.set_cons_succ, i64_w, i32_w]
      rfl
    refine take_ (i := 5) (N := some 41) (v := ?_) (a' := ?_) #[true, true, true, true, true, true, false, false, false, false, false, false] rfl rfl (take_ofW HT_.out HW_.out (by kernel_rfl)) (fun _ _ _ h => h) (Or.inl ⟨by rfl, ?_⟩) hHeld ?_ ?_
    rotate_left
    · rintro w' ⟨s0, s1⟩
      go_simp
      with_reducible rfl
    rotate_left
    · simp only [Act.put, List.setIfInBounds_toArray, List.set_cons_zero, List.set_cons_succ, i64_w, i32_w]
      rfl
    refine one_ (i := 6) (N := some 42) #[true, true, true, true, true, true, true, false, false, false, false, false] rfl rfl (one_of HT_.out (by kernel_rfl)) (by decide) (fun K hK => ?_)
    refine goes_ Tryd.func42 (by kernel_rfl) rfl #[.slice (some ⟨g7, 0, none⟩) P.f7.length d7, .int .i64 E.f3] (by rfl) rfl rfl (by first | rfl | (simp only [List.map_toArray, List.map_cons, List.map_nil]; rfl)) ?_
    refine (Tryd.slices_BinarySearch_int g7 0 P.f7.length d7 P.f7 E.f3 _ (Nat.le_refl _) (by omega) (HC7.out _ HB.out) HSS.out).mono ?_
    rintro e w' ⟨rfl, nd, rfl⟩
    refine ⟨_, rfl, ?_⟩
    have n0_ := Aside0.mk (blk_drewN BP.out nd)
    have n1_ := Aside0.mk (blk_drewN BE.out nd)
    have n2_ := Aside0.mk (pw_below_drewN HB.out nd)
    clear BP BE HB
    have BP := n0_
    have BE := n1_
    have HB := n2_
    clear n0_ n1_ n2_
    refine hK.out _ _ ⟨(blk_cell BP.out 7).trans rfl, (blk_cell BE.out 20).trans rfl⟩ (fun hHeld => ?_)
    clear hK K
    refine norm_ (a' := ?_) ?_ ?_
    rotate_left
    · show Act.put _ (some 42) _ = _
      simp only [Act.put, List.setIfInBounds_toArray, List.set_cons_zero, List.set_cons_succ, i64_w, i32_w]
      rfl
    refine pure_ (i := 7) (N := some 35) (v := ?_) (a' := ?_) #[true, true, true, true, true, true, true, true, false, false, false, false] rfl rfl (any_of HT_.out (by kernel_rfl)) (fun _ _ _ h => h) (Or.inl ⟨by rfl, ?_⟩) ?_ ?_
    rotate_left
    · intro w'
      go_simp
      with_reducible rfl
    rotate_left
    · simp only [Act.put, List.setIfInBounds_toArray, List.set_cons_zero, List.set_cons_succ, i64_w, i32_w]
      rfl
    refine pure_ (i := 8) (N := some 43) (v := ?_) (a' := ?_) #[true, true, true, true, true, true, true, true, true, false, false, false] rfl rfl (any_of HT_.out (by kernel_rfl)) (fun _ _ _ h => h) (Or.inl ⟨by rfl, ?_⟩) ?_ ?_
    rotate_left
    · intro w'
      go_simp
      with_reducible rfl
    rotate_left
    · simp only [Act.put, List.setIfInBounds_toArray, List.set_cons_zero, List.set_cons_succ, i64_w, i32_w]
      rfl
    refine pure_ (i := 9) (N := some 44) (v := ?_) (a' := ?_) #[true, true, true, true, true, true, true, true, true, true, false, false] rfl rfl (any_of HT_.out (by kernel_rfl)) (fun _ _ _ h => h) (Or.inl ⟨by rfl, ?_⟩) ?_ ?_
    rotate_left
    · intro w'
      go_simp
      with_reducible rfl
    rotate_left
    · simp only [Act.put, List.setIfInBounds_toArray, List.set_cons_zero, List.set_cons_succ, i64_w, i32_w]
      rfl
    refine pure_ (i := 10) (N := some 7) (v := ?_) (a' := ?_) #[true, true, true, true, true, true, true, true, true, true, true, false] rfl rfl (any_of HT_.out (by kernel_rfl)) (fun _ _ _ h => h) (Or.inl ⟨by rfl, ?_⟩) ?_ ?_
    rotate_left
    · intro w'
      go_simp
      with_reducible rfl
    rotate_left
    · simp only [Act.put, List.setIfInBounds_toArray, List.set_cons_zero, List.set_cons_succ, i64_w, i32_w]
      rfl
    refine pure_ (i := 11) (N := some 8) (v := ?_) (a' := ?_) #[true, true, true, true, true, true, true, true, true, true, true, true] rfl rfl (any_of HT_.out (by kernel_rfl)) (fun _ _ _ h => h) (Or.inl ⟨by rfl, ?_⟩) ?_ ?_
    rotate_left
    · intro w'
      go_simp
      with_reducible rfl
    rotate_left
    · simp only [Act.put, List.setIfInBounds_toArray, List.set_cons_zero, List.set_cons_succ, i64_w, i32_w]
      rfl
    refine done_ (done_of HT_.out (by kernel_rfl)) ?_
    go_wp2_with fail
    go_meet
    exact ⟨by rfl, ⟨_, rfl, ⟨by first | rfl | simp⟩⟩, nd, rfl⟩
  case rest =>
  obtain ⟨rfl, ⟨m8, rfl, HM8⟩, nw, hwc⟩ := hcut
  have BP := Aside0.mk (blk_drewN (blk_drew BP.out) nw)
  have BE := Aside0.mk (blk_drewN (blk_drew BE.out) nw)
  have HB := Aside0.mk (pw_below_drewN (below_drew1 HB.out) nw)
  rw [← hwc] at BP BE HB
  obtain ⟨w4, hw4⟩ : ∃ w4, w4 = wc := ⟨_, rfl⟩
  rw [← hw4] at BP BE HB ⊢
  clear hwc hw4
  have hBb : ∀ W, Below w.heap.size w W → Below base w W := fun W h => h.mono hbw
  have e0 : w4.cell? ⟨w.heap.size, 0, none⟩ = some (.int .i64 E.f0) := (blk_cell BE.out 0).trans rfl
  by_cases h1 : E.f0 = 1
  · skip
    have k1 : (E.f0 == 1) = true := beq_iff_eq.mpr h1
    have hch : chg P E = some { P with f9 := P.f9 ++ [E.f2] } := by unfold chg; rw [if_pos h1]
    have HCH := Aside0.mk hch
    have HX2 : Aside0 (∀ W : World, W.heap[w.heap.size]? = some (.cells #[.int .i64 E.f0, .int .i64 E.f1, .string E.f2.f0, .int .i64 E.f2.f1, .int .i64 E.f2.f2, .int .i64 E.f2.f3, .int .i64 E.f2.f4, .int .i64 E.f2.f5, .slice A6 E.f2.f6.length c6, .slice A7 E.f2.f7.length c7, .slice A8 E.f2.f8.length c8, .slice A9 E.f2.f9.length c9, .int .i64 E.f2.f10, .int .i64 E.f2.f11, .slice A12 E.f2.f12.length c12, .int .i64 E.f2.f13, .slice A14 E.f2.f14.length c14, .slice A15 E.f2.f15.length c15, .slice A16 E.f2.f16.length c16, .int .i64 E.f2.f17, .int .i64 E.f3, .string E.f4] 32 (0, 0)) → ∀ j v, [.string E.f2.f0, .int .i64 E.f2.f1, .int .i64 E.f2.f2, .int .i64 E.f2.f3, .int .i64 E.f2.f4, .int .i64 E.f2.f5, .slice A6 E.f2.f6.length c6, .slice A7 E.f2.f7.length c7, .slice A8 E.f2.f8.length c8, .slice A9 E.f2.f9.length c9, .int .i64 E.f2.f10, .int .i64 E.f2.f11, .slice A12 E.f2.f12.length c12, .int .i64 E.f2.f13, .slice A14 E.f2.f14.length c14, .slice A15 E.f2.f15.length c15, .slice A16 E.f2.f16.length c16, .int .i64 E.f2.f17][j]? = some v → W.cell? ((⟨w.heap.size, 2, none⟩ : Addr).add j) = some v) := ⟨fun W h => mid_cells [.int .i64 E.f0, .int .i64 E.f1] [.string E.f2.f0, .int .i64 E.f2.f1, .int .i64 E.f2.f2, .int .i64 E.f2.f3, .int .i64 E.f2.f4, .int .i64 E.f2.f5, .slice A6 E.f2.f6.length c6, .slice A7 E.f2.f7.length c7, .slice A8 E.f2.f8.length c8, .slice A9 E.f2.f9.length c9, .int .i64 E.f2.f10, .int .i64 E.f2.f11, .slice A12 E.f2.f12.length c12, .int .i64 E.f2.f13, .slice A14 E.f2.f14.length c14, .slice A15 E.f2.f15.length c15, .slice A16 E.f2.f16.length c16, .int .i64 E.f2.f17] [.int .i64 E.f3, .string E.f4] h⟩
    clear hch
    go_upto_region 7 with (fail)
    clear k1 e0
    have n0_ := Aside0.mk (blk_drew BP.out)
    have n1_ := Aside0.mk (blk_drew BE.out)
    have n2_ := Aside0.mk (below_drew1 HB.out)
    clear BP BE HB
    have BP := n0_
    have BE := n1_
    have HB := n2_
    clear n0_ n1_ n2_
    have M9w := Aside0.mk (Kd.R_mono (ok' := fun _ => True) (Kd.R_below M9.out HB.out) (fun _ _ => trivial))
    have HRW := Aside0.mk (k30.K_below HB.out HRK.out)
    refine start_ (n := 13) (S := fun w' => w'.cell? ⟨g, 9, none⟩ = some (.slice B9 P.f9.length d9)) (ds := [12]) #[false, false, false, false, false, false, false, false, false, false, false, false, false] (by kernel_rfl) rfl rfl ((blk_cell BP.out 9).trans rfl) (fun hHeld => ?_)
    refine with_tabW change.tab7 change.bits7 (fun HT_ HW_ => ?_)
    refine pure_ (i := 0) (N := some 49) (v := ?_) (a' := ?_) #[true, false, false, false, false, false, false, false, false, false, false, false, false] rfl rfl (any_of HT_.out (by kernel_rfl)) (fun _ _ _ h => h) (Or.inl ⟨by rfl, ?_⟩) ?_ ?_
    rotate_left
    · intro w'
      go_simp
      with_reducible rfl
    rotate_left
    · simp only [Act.put, List.setIfInBounds_toArray, List.set_cons_zero, List.set_cons_succ, i64_w, i32_w]
      rfl
    refine pure_ (i := 1) (N := some 50) (v := ?_) (a' := ?_) #[true, true, false, false, false, false, false, false, false, false, false, false, false] rfl rfl (any_of HT_.out (by kernel_rfl)) (fun _ _ _ h => h) (Or.inl ⟨by rfl, ?_⟩) ?_ ?_
    rotate_left
    · intro w'
      go_simp
      with_reducible rfl
    rotate_left
    · simp only [Act.put, List.setIfInBounds_toArray, List.set_cons_zero, List.set_cons_succ, i64_w, i32_w]
      rfl
    refine pure_ (i := 2) (N := some 51) (v := ?_) (a' := ?_) #[true, true, true, false, false, false, false, false, false, false, false, false, false] rfl rfl (any_of HT_.out (by kernel_rfl)) (fun _ _ _ h => h) (Or.inl ⟨by rfl, ?_⟩) ?_ ?_
    rotate_left
    · intro w'
      go_simp
      with_reducible rfl
    rotate_left
    · simp only [Act.put, List.setIfInBounds_toArray, List.set_cons_zero, List.set_cons_succ, i64_w, i32_w]
      rfl
    refine pure_ (i := 3) (N := some 52) (v := ?_) (a' := ?_) #[true, true, true, true, false, false, false, false, false, false, false, false, false] rfl rfl (any_of HT_.out (by kernel_rfl)) (fun _ _ _ h => h) (Or.inl ⟨by rfl, ?_⟩) ?_ ?_
    rotate_left
    · intro w'
      go_simp
      with_reducible rfl
    rotate_left
    · simp only [Act.put, List.setIfInBounds_toArray, List.set_cons_zero, List.set_cons_succ, i64_w, i32_w]
      rfl
    refine pure_ (i := 5) (N := some 54) (v := ?_) (a' := ?_) #[true, true, true, true, false, true, false, false, false, false, false, false, false] rfl rfl (any_of HT_.out (by kernel_rfl)) (fun _ _ _ h => h) (Or.inl ⟨by rfl, ?_⟩) ?_ ?_
    rotate_left
    · intro w'
      go_simp
      with_reducible rfl
    rotate_left
    · simp only [Act.put, List.setIfInBounds_toArray, List.set_cons_zero, List.set_cons_succ, i64_w, i32_w]
      rfl
    refine take_ (i := 4) (N := some 53) (v := ?_) (a' := ?_) #[true, true, true, true, true, true, false, false, false, false, false, false, false] rfl rfl (take_ofW HT_.out HW_.out (by kernel_rfl)) (fun _ _ _ h => h) (Or.inl ⟨by rfl, ?_⟩) hHeld ?_ ?_
    rotate_left
    · intro w' s0
      go_simp
      with_reducible rfl
    rotate_left
    · simp only [Act.put, List.setIfInBounds_toArray, List.set_cons_zero, List.set_cons_succ, i64_w, i32_w]
      rfl
    refine one_ (i := 6) (N := some 55) #[true, true, true, true, true, true, true, false, false, false, false, false, false] rfl rfl (one_of HT_.out (by kernel_rfl)) (by decide) (fun K hK => ?_)
    refine value_ (w1 := _) (v := .agg #[.string E.f2.f0, .int .i64 E.f2.f1, .int .i64 E.f2.f2, .int .i64 E.f2.f3, .int .i64 E.f2.f4, .int .i64 E.f2.f5, .slice A6 E.f2.f6.length c6, .slice A7 E.f2.f7.length c7, .slice A8 E.f2.f8.length c8, .slice A9 E.f2.f9.length c9, .int .i64 E.f2.f10, .int .i64 E.f2.f11, .slice A12 E.f2.f12.length c12, .int .i64 E.f2.f13, .slice A14 E.f2.f14.length c14, .slice A15 E.f2.f15.length c15, .slice A16 E.f2.f16.length c16, .int .i64 E.f2.f17]) (by rfl) rfl (load_run 30 (.tmp 54) rfl ⟨w.heap.size, 2, none⟩ (by go_simp) [.string E.f2.f0, .int .i64 E.f2.f1, .int .i64 E.f2.f2, .int .i64 E.f2.f3, .int .i64 E.f2.f4, .int .i64 E.f2.f5, .slice A6 E.f2.f6.length c6, .slice A7 E.f2.f7.length c7, .slice A8 E.f2.f8.length c8, .slice A9 E.f2.f9.length c9, .int .i64 E.f2.f10, .int .i64 E.f2.f11, .slice A12 E.f2.f12.length c12, .int .i64 E.f2.f13, .slice A14 E.f2.f14.length c14, .slice A15 E.f2.f15.length c15, .slice A16 E.f2.f16.length c16, .int .i64 E.f2.f17] (fun w => Tryd.sizeOf30 w) Tryd.isAgg30 (HX2.out _ BE.out)) ?_
    refine hK.out _ _ ((blk_cell BP.out 9).trans rfl) (fun hHeld => ?_)
    clear hK K
    refine norm_ (a' := ?_) ?_ ?_
    rotate_left
    · show Act.put _ (some 55) _ = _
      simp only [Act.put, List.setIfInBounds_toArray, List.set_cons_zero, List.set_cons_succ, i64_w, i32_w]
      rfl
    refine one_ (i := 7) (N := some 56) #[true, true, true, true, true, true, true, true, false, false, false, false, false] rfl rfl (one_of HT_.out (by kernel_rfl)) (by decide) (fun K hK => ?_)
    refine goes_ Tryd.func41 (by kernel_rfl) rfl #[.agg #[.string E.f2.f0, .int .i64 E.f2.f1, .int .i64 E.f2.f2, .int .i64 E.f2.f3, .int .i64 E.f2.f4, .int .i64 E.f2.f5, .slice A6 E.f2.f6.length c6, .slice A7 E.f2.f7.length c7, .slice A8 E.f2.f8.length c8, .slice A9 E.f2.f9.length c9, .int .i64 E.f2.f10, .int .i64 E.f2.f11, .slice A12 E.f2.f12.length c12, .int .i64 E.f2.f13, .slice A14 E.f2.f14.length c14, .slice A15 E.f2.f15.length c15, .slice A16 E.f2.f16.length c16, .int .i64 E.f2.f17]] (by rfl) rfl rfl (by first | rfl | (simp only [List.map_toArray, List.map_cons, List.map_nil]; rfl)) ?_
    refine (copyRule_any E.f2 [.string E.f2.f0, .int .i64 E.f2.f1, .int .i64 E.f2.f2, .int .i64 E.f2.f3, .int .i64 E.f2.f4, .int .i64 E.f2.f5, .slice A6 E.f2.f6.length c6, .slice A7 E.f2.f7.length c7, .slice A8 E.f2.f8.length c8, .slice A9 E.f2.f9.length c9, .int .i64 E.f2.f10, .int .i64 E.f2.f11, .slice A12 E.f2.f12.length c12, .int .i64 E.f2.f13, .slice A14 E.f2.f14.length c14, .slice A15 E.f2.f15.length c15, .slice A16 E.f2.f16.length c16, .int .i64 E.f2.f17] _ HRW.out hl).mono ?_
    rintro e w5 ⟨csr, rfl, hMr, hBr⟩
    refine ⟨_, rfl, ?_⟩
    obtain ⟨inr, hown⟩ := Kd.R_own M9w.out
    have n0_ := Aside0.mk (blk_below BP.out hBr)
    have n1_ := Aside0.mk (HB.out.trans (hBr.mono HB.out.size))
    have n3_ := Aside0.mk (Kd.R_below M9w.out hBr)
    have HMr := Aside0.mk (k30.M_lower (Nat.le_trans hbw HB.out.size) (Kd.M_new hMr hown))
    obtain ⟨u6, u7, u8, u9, u12, u14, u15, u16, rfl, r6, r7, r8, r9, r12, r14, r15, r16⟩ := k30_openM hMr
    obtain ⟨S6, s6, hv⟩ := Kd.R_slice r6
    subst hv
    obtain ⟨S7, s7, hv⟩ := Kd.R_slice r7
    subst hv
    obtain ⟨S8, s8, hv⟩ := Kd.R_slice r8
    subst hv
    obtain ⟨S9, s9, hv⟩ := Kd.R_slice r9
    subst hv
    obtain ⟨S12, s12, hv⟩ := Kd.R_slice r12
    subst hv
    obtain ⟨S14, s14, hv⟩ := Kd.R_slice r14
    subst hv
    obtain ⟨S15, s15, hv⟩ := Kd.R_slice r15
    subst hv
    obtain ⟨S16, s16, hv⟩ := Kd.R_slice r16
    subst hv
    clear r6 r7 r8 r9 r12 r14 r15 r16
    clear BP BE HB M9w hMr hBr hown
    have BP := n0_
    have HB := n1_
    have M9w := n3_
    clear n0_ n1_ n3_
    refine hK.out _ _ ((blk_cell BP.out 9).trans rfl) (fun hHeld => ?_)
    clear hK K
    refine norm_ (a' := ?_) ?_ ?_
    rotate_left
    · show Act.put _ (some 56) _ = _
      simp only [Act.put, List.setIfInBounds_toArray, List.set_cons_zero, List.set_cons_succ, i64_w, i32_w]
      rfl
    refine one_ (i := 8) (N := some 57) #[true, true, true, true, true, true, true, true, true, false, false, false, false] rfl rfl (one_of HT_.out (by kernel_rfl)) (by decide) (fun K hK => ?_)
    refine value_ (w1 := ?_) (v := ?_) (by rfl) rfl ?_ ?_
    rotate_left 2
    · go_simp
      constructor
      · rfl
      · rfl
    refine hK.out _ _ ((blk_cell (blk_alloc BP.out _) 9).trans rfl) (fun hHeld => ?_)
    clear hK K
    refine norm_ (a' := ?_) ?_ ?_
    rotate_left
    · show Act.put _ (some 57) _ = _
      simp only [Act.put, List.setIfInBounds_toArray, List.set_cons_zero, List.set_cons_succ, i64_w, i32_w]
      rfl
    refine one_ (i := 9) (N := some 58) #[true, true, true, true, true, true, true, true, true, true, false, false, false] rfl rfl (one_of HT_.out (by kernel_rfl)) (by decide) (fun K hK => ?_)
    refine Kd.R_append_step k30 (w0 := w) base (by rfl) (.tmp 53) (.tmp 57) 25 30 _ 280 rfl Tryd.underlying25 info30 rfl (by decide) (by decide) _ P.f9 E.f2 [.string E.f2.f0, .int .i64 E.f2.f1, .int .i64 E.f2.f2, .int .i64 E.f2.f3, .int .i64 E.f2.f4, .int .i64 E.f2.f5, .slice S6 E.f2.f6.length s6, .slice S7 E.f2.f7.length s7, .slice S8 E.f2.f8.length s8, .slice S9 E.f2.f9.length s9, .int .i64 E.f2.f10, .int .i64 E.f2.f11, .slice S12 E.f2.f12.length s12, .int .i64 E.f2.f13, .slice S14 E.f2.f14.length s14, .slice S15 E.f2.f15.length s15, .slice S16 E.f2.f16.length s16, .int .i64 E.f2.f17] (fun _ => True) _ rfl rfl HMr.out (fun k h => ⟨trivial, h.2⟩) (fun _ _ => trivial) M9w.out (hBb _ HB.out) (Nat.le_trans hbw HB.out.size) (by omega) ?_
    intro v1 w6 hR hB hg_ hat_
    obtain ⟨n9, hn9⟩ : ∃ n9, n9 = (P.f9 ++ [E.f2]).length := ⟨_, rfl⟩
    obtain ⟨Ar, cr, hv⟩ := Kd.R_slice hR
    rw [← hn9] at hv
    subst hv
    have n0_ := Aside0.mk (blk_grown BP.out hg_ (Kd.R_ne M9w.out BP.out (by decide)))
    have HR := Aside0.mk hR
    have HBZ := Aside0.mk hB
    have N2 := Aside0.mk (Kd.R_grown (Kd.R_below M2.out HB.out) hg_ (fun x hx hr => by have h9' : lo9 ≤ x := M9.out.1 x hr.symm; have hx' : lo2 ≤ x ∧ x < hi2 := hx; omega))
    have N3 := Aside0.mk (Kd.R_grown (Kd.R_below M3.out HB.out) hg_ (fun x hx hr => by have h9' : lo9 ≤ x := M9.out.1 x hr.symm; have hx' : lo3 ≤ x ∧ x < hi3 := hx; omega))
    have N4 := Aside0.mk (Kd.R_grown (Kd.R_below M4.out HB.out) hg_ (fun x hx hr => by have h9' : lo9 ≤ x := M9.out.1 x hr.symm; have hx' : lo4 ≤ x ∧ x < hi4 := hx; omega))
    have N6 := Aside0.mk (Kd.R_grown (Kd.R_below M6.out HB.out) hg_ (fun x hx hr => by have h9' : lo9 ≤ x := M9.out.1 x hr.symm; have hx' : lo6 ≤ x ∧ x < hi6 := hx; omega))
    have N7 := Aside0.mk (Kd.R_grown (Kd.R_below M7.out HB.out) hg_ (fun x hx hr => by have h9' : lo9 ≤ x := M9.out.1 x hr.symm; have hx' : lo7 ≤ x ∧ x < hi7 := hx; omega))
    have N8 := Aside0.mk (Kd.R_grown (Kd.R_below M8.out HB.out) hg_ (fun x hx hr => by have h9' : lo9 ≤ x := M9.out.1 x hr.symm; have hx' : lo8 ≤ x ∧ x < hi8 := hx; omega))
    clear BP hR hB hg_ hat_ hn9
    have BP := n0_
    clear n0_
    refine hK.out _ _ ((blk_cell BP.out 9).trans rfl) (fun hHeld => ?_)
    clear hK K
    refine norm_ (a' := ?_) ?_ ?_
    rotate_left
    · show Act.put _ (some 58) _ = _
      simp only [Act.put, List.setIfInBounds_toArray, List.set_cons_zero, List.set_cons_succ, i64_w, i32_w]
      rfl
    refine pure_ (i := 10) (N := some 59) (v := ?_) (a' := ?_) #[true, true, true, true, true, true, true, true, true, true, true, false, false] rfl rfl (any_of HT_.out (by kernel_rfl)) (fun _ _ _ h => h) (Or.inl ⟨by rfl, ?_⟩) ?_ ?_
    rotate_left
    · intro w'
      go_simp
      with_reducible rfl
    rotate_left
    · simp only [Act.put, List.setIfInBounds_toArray, List.set_cons_zero, List.set_cons_succ, i64_w, i32_w]
      rfl
    refine pure_ (i := 11) (N := some 60) (v := ?_) (a' := ?_) #[true, true, true, true, true, true, true, true, true, true, true, true, false] rfl rfl (any_of HT_.out (by kernel_rfl)) (fun _ _ _ h => h) (Or.inl ⟨by rfl, ?_⟩) ?_ ?_
    rotate_left
    · intro w'
      go_simp
      with_reducible rfl
    rotate_left
    · simp only [Act.put, List.setIfInBounds_toArray, List.set_cons_zero, List.set_cons_succ, i64_w, i32_w]
      rfl
    refine last_ (i := 12) (N := none) #[true, true, true, true, true, true, true, true, true, true, true, true, true] rfl rfl (one_of HT_.out (by kernel_rfl)) (by decide) (fun K hK => ?_)
    have sc : w6.cell? ⟨g, 9, none⟩ = some (.slice B9 P.f9.length d9) := (blk_cell BP.out 9).trans rfl
    have sf := blk_frozen BP.out 9
    refine skip_ (w1 := ?_) (by rfl) rfl ?_ ?_
    rotate_left
    · go_simp
      rfl
    clear sc sf
    refine hK.out _ _ ?_
    clear hK K
    refine done_ (done_of HT_.out (by kernel_rfl)) ?_
    have HF := Aside0.mk (fin_set { P with f9 := P.f9 ++ [E.f2] } 9 (.slice Ar n9 cr) BP.out N2.out N3.out N4.out N6.out N7.out N8.out HR.out rfl)
    have HBF := Aside0.mk (HBZ.out.setCell (p := ⟨g, 9, none⟩) hg (.slice Ar n9 cr))
    go_wp2_with fail
    go_ret
    exact ⟨by unfold ChangeTo; rw [HCH.out]; exact ⟨rfl, HF.out⟩, HBF.out⟩
  have k1 : (E.f0 == 1) = false := beq_eq_false_iff_ne.mpr h1
  by_cases h23 : E.f0 = 2 ∨ E.f0 = 3
  · cases m5 with
    | false =>
      have hr : ¬ (0 ≤ E.f1 ∧ E.f1 < P.f9.length) := by have := HM5.out; simpa using this.symm
      have HR := Aside0.mk hr
      clear hr
      rcases h23 with h | h
      · have h2 := h
        have k2 : (E.f0 == 2) = true := beq_iff_eq.mpr h2
        have hch : chg P E = none := by unfold chg; rw [if_neg h1, if_pos (.inl h), if_neg HR.out]
        have HCH := Aside0.mk hch
        clear hch
        go_wp2_with fail
        go_ret
        exact ⟨by unfold ChangeTo; rw [HCH.out]; exact ⟨6, by decide, rfl⟩, hBb _ HB.out⟩
      · have h3 := h
        have k2 : (E.f0 == 2) = false := by rw [h3]; rfl
        have k3 : (E.f0 == 3) = true := beq_iff_eq.mpr h3
        have hch : chg P E = none := by unfold chg; rw [if_neg h1, if_pos (.inr h), if_neg HR.out]
        have HCH := Aside0.mk hch
        clear hch
        go_wp2_with fail
        go_ret
        exact ⟨by unfold ChangeTo; rw [HCH.out]; exact ⟨6, by decide, rfl⟩, hBb _ HB.out⟩
    | true =>
      have hr : 0 ≤ E.f1 ∧ E.f1 < P.f9.length := by have := HM5.out; simpa using this.symm
      rcases h23 with h2 | h3
      · skip
        have k2 : (E.f0 == 2) = true := by rw [h2]; rfl
        have hch : chg P E = some { P with f9 := P.f9.set E.f1.toNat E.f2 } := by unfold chg; rw [if_neg h1, if_pos (.inl h2), if_pos hr, if_pos h2]
        have HCH := Aside0.mk hch
        have hr0 := hr.1
        have hr1 := hr.2
        have hrn : E.f1.toNat < P.f9.length := by omega
        obtain ⟨q9, cq9, hv, hbq9, hlo9⟩ := R_head M9.out (fun h => by rw [h] at hrn; simp at hrn)
        obtain ⟨rfl, rfl⟩ : B9 = some ⟨q9, 0, none⟩ ∧ d9 = cq9 := by injection hv with a _ b; exact ⟨a, b⟩
        have hlo9' : lo9 ≤ q9 := hlo9
        have HX2 : Aside0 (∀ W : World, W.heap[w.heap.size]? = some (.cells #[.int .i64 E.f0, .int .i64 E.f1, .string E.f2.f0, .int .i64 E.f2.f1, .int .i64 E.f2.f2, .int .i64 E.f2.f3, .int .i64 E.f2.f4, .int .i64 E.f2.f5, .slice A6 E.f2.f6.length c6, .slice A7 E.f2.f7.length c7, .slice A8 E.f2.f8.length c8, .slice A9 E.f2.f9.length c9, .int .i64 E.f2.f10, .int .i64 E.f2.f11, .slice A12 E.f2.f12.length c12, .int .i64 E.f2.f13, .slice A14 E.f2.f14.length c14, .slice A15 E.f2.f15.length c15, .slice A16 E.f2.f16.length c16, .int .i64 E.f2.f17, .int .i64 E.f3, .string E.f4] 32 (0, 0)) → ∀ j v, [.string E.f2.f0, .int .i64 E.f2.f1, .int .i64 E.f2.f2, .int .i64 E.f2.f3, .int .i64 E.f2.f4, .int .i64 E.f2.f5, .slice A6 E.f2.f6.length c6, .slice A7 E.f2.f7.length c7, .slice A8 E.f2.f8.length c8, .slice A9 E.f2.f9.length c9, .int .i64 E.f2.f10, .int .i64 E.f2.f11, .slice A12 E.f2.f12.length c12, .int .i64 E.f2.f13, .slice A14 E.f2.f14.length c14, .slice A15 E.f2.f15.length c15, .slice A16 E.f2.f16.length c16, .int .i64 E.f2.f17][j]? = some v → W.cell? ((⟨w.heap.size, 2, none⟩ : Addr).add j) = some v) := ⟨fun W h => mid_cells [.int .i64 E.f0, .int .i64 E.f1] [.string E.f2.f0, .int .i64 E.f2.f1, .int .i64 E.f2.f2, .int .i64 E.f2.f3, .int .i64 E.f2.f4, .int .i64 E.f2.f5, .slice A6 E.f2.f6.length c6, .slice A7 E.f2.f7.length c7, .slice A8 E.f2.f8.length c8, .slice A9 E.f2.f9.length c9, .int .i64 E.f2.f10, .int .i64 E.f2.f11, .slice A12 E.f2.f12.length c12, .int .i64 E.f2.f13, .slice A14 E.f2.f14.length c14, .slice A15 E.f2.f15.length c15, .slice A16 E.f2.f16.length c16, .int .i64 E.f2.f17] [.int .i64 E.f3, .string E.f4] h⟩
        clear hch hv hlo9
        go_upto_region 13 with (fail)
        clear k1 k2 e0
        have n0_ := Aside0.mk (blk_drew BP.out)
        have n1_ := Aside0.mk (blk_drew BE.out)
        have n2_ := Aside0.mk (below_drew1 HB.out)
        clear BP BE HB
        have BP := n0_
        have BE := n1_
        have HB := n2_
        clear n0_ n1_ n2_
        have M9w := Aside0.mk (Kd.R_mono (ok' := fun _ => True) (Kd.R_below M9.out HB.out) (fun _ _ => trivial))
        have HRW := Aside0.mk (k30.K_below HB.out HRK.out)
        refine start_ (n := 11) (S := fun w' => w'.cell? ⟨g, 9, none⟩ = some (.slice (some ⟨q9, 0, none⟩) P.f9.length d9) ∧ w'.cell? ⟨w.heap.size, 1, none⟩ = some (.int .i64 E.f1)) (ds := [10]) #[false, false, false, false, false, false, false, false, false, false, false] (by kernel_rfl) rfl rfl ⟨(blk_cell BP.out 9).trans rfl, (blk_cell BE.out 1).trans rfl⟩ (fun hHeld => ?_)
        refine with_tabW change.tab13 change.bits13 (fun HT_ HW_ => ?_)
        refine pure_ (i := 0) (N := some 69) (v := ?_) (a' := ?_) #[true, false, false, false, false, false, false, false, false, false, false] rfl rfl (any_of HT_.out (by kernel_rfl)) (fun _ _ _ h => h) (Or.inl ⟨by rfl, ?_⟩) ?_ ?_
        rotate_left
        · intro w'
          go_simp
          with_reducible rfl
        rotate_left
        · simp only [Act.put, List.setIfInBounds_toArray, List.set_cons_zero, List.set_cons_succ, i64_w, i32_w]
          rfl
        refine pure_ (i := 1) (N := some 70) (v := ?_) (a' := ?_) #[true, true, false, false, false, false, false, false, false, false, false] rfl rfl (any_of HT_.out (by kernel_rfl)) (fun _ _ _ h => h) (Or.inl ⟨by rfl, ?_⟩) ?_ ?_
        rotate_left
        · intro w'
          go_simp
          with_reducible rfl
        rotate_left
        · simp only [Act.put, List.setIfInBounds_toArray, List.set_cons_zero, List.set_cons_succ, i64_w, i32_w]
          rfl
        refine pure_ (i := 2) (N := some 71) (v := ?_) (a' := ?_) #[true, true, true, false, false, false, false, false, false, false, false] rfl rfl (any_of HT_.out (by kernel_rfl)) (fun _ _ _ h => h) (Or.inl ⟨by rfl, ?_⟩) ?_ ?_
        rotate_left
        · intro w'
          go_simp
          with_reducible rfl
        rotate_left
        · simp only [Act.put, List.setIfInBounds_toArray, List.set_cons_zero, List.set_cons_succ, i64_w, i32_w]
          rfl
        refine pure_ (i := 4) (N := some 73) (v := ?_) (a' := ?_) #[true, true, true, false, true, false, false, false, false, false, false] rfl rfl (any_of HT_.out (by kernel_rfl)) (fun _ _ _ h => h) (Or.inl ⟨by rfl, ?_⟩) ?_ ?_
        rotate_left
        · intro w'
          go_simp
          with_reducible rfl
        rotate_left
        · simp only [Act.put, List.setIfInBounds_toArray, List.set_cons_zero, List.set_cons_succ, i64_w, i32_w]
          rfl
        refine pure_ (i := 6) (N := some 75) (v := ?_) (a' := ?_) #[true, true, true, false, true, false, true, false, false, false, false] rfl rfl (any_of HT_.out (by kernel_rfl)) (fun _ _ _ h => h) (Or.inl ⟨by rfl, ?_⟩) ?_ ?_
        rotate_left
        · intro w'
          go_simp
          with_reducible rfl
        rotate_left
        · simp only [Act.put, List.setIfInBounds_toArray, List.set_cons_zero, List.set_cons_succ, i64_w, i32_w]
          rfl
        refine take_ (i := 3) (N := some 72) (v := ?_) (a' := ?_) #[true, true, true, true, true, false, true, false, false, false, false] rfl rfl (take_ofW HT_.out HW_.out (by kernel_rfl)) (fun _ _ _ h => h) (Or.inl ⟨by rfl, ?_⟩) hHeld ?_ ?_
        rotate_left
        · rintro w' ⟨s0, s1⟩
          go_simp
          with_reducible rfl
        rotate_left
        · simp only [Act.put, List.setIfInBounds_toArray, List.set_cons_zero, List.set_cons_succ, i64_w, i32_w]
          rfl
        refine take_ (i := 5) (N := some 74) (v := ?_) (a' := ?_) #[true, true, true, true, true, true, true, false, false, false, false] rfl rfl (take_ofW HT_.out HW_.out (by kernel_rfl)) (fun _ _ _ h => h) (Or.inl ⟨by rfl, ?_⟩) hHeld ?_ ?_
        rotate_left
        · rintro w' ⟨s0, s1⟩
          go_simp
          with_reducible rfl
        rotate_left
        · simp only [Act.put, List.setIfInBounds_toArray, List.set_cons_zero, List.set_cons_succ, i64_w, i32_w]
          rfl
        refine one_ (i := 7) (N := some 76) #[true, true, true, true, true, true, true, true, false, false, false] rfl rfl (one_of HT_.out (by kernel_rfl)) (by decide) (fun K hK => ?_)
        refine value_ (w1 := _) (v := .agg #[.string E.f2.f0, .int .i64 E.f2.f1, .int .i64 E.f2.f2, .int .i64 E.f2.f3, .int .i64 E.f2.f4, .int .i64 E.f2.f5, .slice A6 E.f2.f6.length c6, .slice A7 E.f2.f7.length c7, .slice A8 E.f2.f8.length c8, .slice A9 E.f2.f9.length c9, .int .i64 E.f2.f10, .int .i64 E.f2.f11, .slice A12 E.f2.f12.length c12, .int .i64 E.f2.f13, .slice A14 E.f2.f14.length c14, .slice A15 E.f2.f15.length c15, .slice A16 E.f2.f16.length c16, .int .i64 E.f2.f17]) (by rfl) rfl (load_run 30 (.tmp 75) rfl ⟨w.heap.size, 2, none⟩ (by go_simp) [.string E.f2.f0, .int .i64 E.f2.f1, .int .i64 E.f2.f2, .int .i64 E.f2.f3, .int .i64 E.f2.f4, .int .i64 E.f2.f5, .slice A6 E.f2.f6.length c6, .slice A7 E.f2.f7.length c7, .slice A8 E.f2.f8.length c8, .slice A9 E.f2.f9.length c9, .int .i64 E.f2.f10, .int .i64 E.f2.f11, .slice A12 E.f2.f12.length c12, .int .i64 E.f2.f13, .slice A14 E.f2.f14.length c14, .slice A15 E.f2.f15.length c15, .slice A16 E.f2.f16.length c16, .int .i64 E.f2.f17] (fun w => Tryd.sizeOf30 w) Tryd.isAgg30 (HX2.out _ BE.out)) ?_
        refine hK.out _ _ ⟨(blk_cell BP.out 9).trans rfl, (blk_cell BE.out 1).trans rfl⟩ (fun hHeld => ?_)
        clear hK K
        refine norm_ (a' := ?_) ?_ ?_
        rotate_left
        · show Act.put _ (some 76) _ = _
          simp only [Act.put, List.setIfInBounds_toArray, List.set_cons_zero, List.set_cons_succ, i64_w, i32_w]
          rfl
        refine one_ (i := 8) (N := some 77) #[true, true, true, true, true, true, true, true, true, false, false] rfl rfl (one_of HT_.out (by kernel_rfl)) (by decide) (fun K hK => ?_)
        refine goes_ Tryd.func41 (by kernel_rfl) rfl #[.agg #[.string E.f2.f0, .int .i64 E.f2.f1, .int .i64 E.f2.f2, .int .i64 E.f2.f3, .int .i64 E.f2.f4, .int .i64 E.f2.f5, .slice A6 E.f2.f6.length c6, .slice A7 E.f2.f7.length c7, .slice A8 E.f2.f8.length c8, .slice A9 E.f2.f9.length c9, .int .i64 E.f2.f10, .int .i64 E.f2.f11, .slice A12 E.f2.f12.length c12, .int .i64 E.f2.f13, .slice A14 E.f2.f14.length c14, .slice A15 E.f2.f15.length c15, .slice A16 E.f2.f16.length c16, .int .i64 E.f2.f17]] (by rfl) rfl rfl (by first | rfl | (simp only [List.map_toArray, List.map_cons, List.map_nil]; rfl)) ?_
        refine (copyRule_any E.f2 [.string E.f2.f0, .int .i64 E.f2.f1, .int .i64 E.f2.f2, .int .i64 E.f2.f3, .int .i64 E.f2.f4, .int .i64 E.f2.f5, .slice A6 E.f2.f6.length c6, .slice A7 E.f2.f7.length c7, .slice A8 E.f2.f8.length c8, .slice A9 E.f2.f9.length c9, .int .i64 E.f2.f10, .int .i64 E.f2.f11, .slice A12 E.f2.f12.length c12, .int .i64 E.f2.f13, .slice A14 E.f2.f14.length c14, .slice A15 E.f2.f15.length c15, .slice A16 E.f2.f16.length c16, .int .i64 E.f2.f17] _ HRW.out hl).mono ?_
        rintro e w5 ⟨csr, rfl, hMr, hBr⟩
        refine ⟨_, rfl, ?_⟩
        obtain ⟨inr, hown⟩ := Kd.R_own M9w.out
        have n0_ := Aside0.mk (blk_below BP.out hBr)
        have n1_ := Aside0.mk (HB.out.trans (hBr.mono HB.out.size))
        have n3_ := Aside0.mk (Kd.R_below M9w.out hBr)
        have HMr := Aside0.mk (k30.M_lower (Nat.le_trans hbw HB.out.size) (Kd.M_new hMr hown))
        obtain ⟨u6, u7, u8, u9, u12, u14, u15, u16, rfl, r6, r7, r8, r9, r12, r14, r15, r16⟩ := k30_openM hMr
        obtain ⟨S6, s6, hv⟩ := Kd.R_slice r6
        subst hv
        obtain ⟨S7, s7, hv⟩ := Kd.R_slice r7
        subst hv
        obtain ⟨S8, s8, hv⟩ := Kd.R_slice r8
        subst hv
        obtain ⟨S9, s9, hv⟩ := Kd.R_slice r9
        subst hv
        obtain ⟨S12, s12, hv⟩ := Kd.R_slice r12
        subst hv
        obtain ⟨S14, s14, hv⟩ := Kd.R_slice r14
        subst hv
        obtain ⟨S15, s15, hv⟩ := Kd.R_slice r15
        subst hv
        obtain ⟨S16, s16, hv⟩ := Kd.R_slice r16
        subst hv
        clear r6 r7 r8 r9 r12 r14 r15 r16
        have nE_ := Aside0.mk (blk_below BE.out hBr)
        clear BP BE HB M9w hMr hBr hown
        have BP := n0_
        have HB := n1_
        have M9w := n3_
        have BE := nE_
        clear n0_ n1_ n3_ nE_
        refine hK.out _ _ ⟨(blk_cell BP.out 9).trans rfl, (blk_cell BE.out 1).trans rfl⟩ (fun hHeld => ?_)
        clear hK K
        refine norm_ (a' := ?_) ?_ ?_
        rotate_left
        · show Act.put _ (some 77) _ = _
          simp only [Act.put, List.setIfInBounds_toArray, List.set_cons_zero, List.set_cons_succ, i64_w, i32_w]
          rfl
        refine pure_ (i := 9) (N := some 78) (v := ?_) (a' := ?_) #[true, true, true, true, true, true, true, true, true, true, false] rfl rfl (any_of HT_.out (by kernel_rfl)) (fun _ _ _ h => h) (Or.inl ⟨by rfl, ?_⟩) ?_ ?_
        rotate_left
        · intro w'
          go_simp
          with_reducible rfl
        rotate_left
        · simp only [Act.put, List.setIfInBounds_toArray, List.set_cons_zero, List.set_cons_succ, i64_w, i32_w]
          rfl
        refine last_ (i := 10) (N := none) #[true, true, true, true, true, true, true, true, true, true, true] rfl rfl (one_of HT_.out (by kernel_rfl)) (by decide) (fun K hK => ?_)
        refine skip_ (w1 := w5.setCells q9 (E.f1.toNat * 18) [.string E.f2.f0, .int .i64 E.f2.f1, .int .i64 E.f2.f2, .int .i64 E.f2.f3, .int .i64 E.f2.f4, .int .i64 E.f2.f5, .slice S6 E.f2.f6.length s6, .slice S7 E.f2.f7.length s7, .slice S8 E.f2.f8.length s8, .slice S9 E.f2.f9.length s9, .int .i64 E.f2.f10, .int .i64 E.f2.f11, .slice S12 E.f2.f12.length s12, .int .i64 E.f2.f13, .slice S14 E.f2.f14.length s14, .slice S15 E.f2.f15.length s15, .slice S16 E.f2.f16.length s16, .int .i64 E.f2.f17]) (by rfl) rfl (store_run 30 (.tmp 78) (.tmp 77) rfl q9 (E.f1.toNat * 18) #[.string E.f2.f0, .int .i64 E.f2.f1, .int .i64 E.f2.f2, .int .i64 E.f2.f3, .int .i64 E.f2.f4, .int .i64 E.f2.f5, .slice S6 E.f2.f6.length s6, .slice S7 E.f2.f7.length s7, .slice S8 E.f2.f8.length s8, .slice S9 E.f2.f9.length s9, .int .i64 E.f2.f10, .int .i64 E.f2.f11, .slice S12 E.f2.f12.length s12, .int .i64 E.f2.f13, .slice S14 E.f2.f14.length s14, .slice S15 E.f2.f15.length s15, .slice S16 E.f2.f16.length s16, .int .i64 E.f2.f17] ?kx ?ky (there_row M9w.out _ hrn) (by kernel_rfl) (by simp [Value.oneCell'])) ?_
        case kx => go_simp
        case ky => go_simp
        refine hK.out _ _ ?_
        clear hK K
        refine done_ (done_of HT_.out (by kernel_rfl)) ?_
        have HS9 : Aside0 (Kd.R k30 30 (w5.setCells q9 (E.f1.toNat * 18) [.string E.f2.f0, .int .i64 E.f2.f1, .int .i64 E.f2.f2, .int .i64 E.f2.f3, .int .i64 E.f2.f4, .int .i64 E.f2.f5, .slice S6 E.f2.f6.length s6, .slice S7 E.f2.f7.length s7, .slice S8 E.f2.f8.length s8, .slice S9 E.f2.f9.length s9, .int .i64 E.f2.f10, .int .i64 E.f2.f11, .slice S12 E.f2.f12.length s12, .int .i64 E.f2.f13, .slice S14 E.f2.f14.length s14, .slice S15 E.f2.f15.length s15, .slice S16 E.f2.f16.length s16, .int .i64 E.f2.f17]) base (fun _ => True) (.slice (some ⟨q9, 0, none⟩) P.f9.length d9) (P.f9.set E.f1.toNat E.f2)) := ⟨R_setrow M9w.out E.f1.toNat hrn E.f2 [.string E.f2.f0, .int .i64 E.f2.f1, .int .i64 E.f2.f2, .int .i64 E.f2.f3, .int .i64 E.f2.f4, .int .i64 E.f2.f5, .slice S6 E.f2.f6.length s6, .slice S7 E.f2.f7.length s7, .slice S8 E.f2.f8.length s8, .slice S9 E.f2.f9.length s9, .int .i64 E.f2.f10, .int .i64 E.f2.f11, .slice S12 E.f2.f12.length s12, .int .i64 E.f2.f13, .slice S14 E.f2.f14.length s14, .slice S15 E.f2.f15.length s15, .slice S16 E.f2.f16.length s16, .int .i64 E.f2.f17] HMr.out (fun k hk => ⟨trivial, fun e => hk.2 (by rw [e]; rfl)⟩)⟩
        obtain ⟨ho, hbl⟩ := row_other M9w.out (E.f1.toNat * 18) [.string E.f2.f0, .int .i64 E.f2.f1, .int .i64 E.f2.f2, .int .i64 E.f2.f3, .int .i64 E.f2.f4, .int .i64 E.f2.f5, .slice S6 E.f2.f6.length s6, .slice S7 E.f2.f7.length s7, .slice S8 E.f2.f8.length s8, .slice S9 E.f2.f9.length s9, .int .i64 E.f2.f10, .int .i64 E.f2.f11, .slice S12 E.f2.f12.length s12, .int .i64 E.f2.f13, .slice S14 E.f2.f14.length s14, .slice S15 E.f2.f15.length s15, .slice S16 E.f2.f16.length s16, .int .i64 E.f2.f17]
        have hgq : g ≠ q9 := fun h => Kd.R_ne M9w.out BP.out (by decide) (by rw [h]; rfl)
        have BPn := Aside0.mk ((ho g hgq).trans BP.out)
        have N2 := Aside0.mk (Kd.R_step (Kd.R_below M2.out HB.out) (fun x hx _ => ho x (by have hx' : lo2 ≤ x ∧ x < hi2 := hx; omega)))
        have N3 := Aside0.mk (Kd.R_step (Kd.R_below M3.out HB.out) (fun x hx _ => ho x (by have hx' : lo3 ≤ x ∧ x < hi3 := hx; omega)))
        have N4 := Aside0.mk (Kd.R_step (Kd.R_below M4.out HB.out) (fun x hx _ => ho x (by have hx' : lo4 ≤ x ∧ x < hi4 := hx; omega)))
        have N6 := Aside0.mk (Kd.R_step (Kd.R_below M6.out HB.out) (fun x hx _ => ho x (by have hx' : lo6 ≤ x ∧ x < hi6 := hx; omega)))
        have N7 := Aside0.mk (Kd.R_step (Kd.R_below M7.out HB.out) (fun x hx _ => ho x (by have hx' : lo7 ≤ x ∧ x < hi7 := hx; omega)))
        have N8 := Aside0.mk (Kd.R_step (Kd.R_below M8.out HB.out) (fun x hx _ => ho x (by have hx' : lo8 ≤ x ∧ x < hi8 := hx; omega)))
        have HF := Aside0.mk (fin_keep { P with f9 := P.f9.set E.f1.toNat E.f2 } BPn.out N2.out N3.out N4.out N6.out N7.out N8.out HS9.out rfl)
        have HBF := Aside0.mk (hbl _ _ (hBb _ HB.out) hbq9)
        clear ho hbl
        go_wp2_with fail
        go_ret
        exact ⟨by unfold ChangeTo; rw [HCH.out]; exact ⟨rfl, HF.out⟩, HBF.out⟩
      · skip
        have k2 : (E.f0 == 2) = false := by rw [h3]; rfl
        have k3 : (E.f0 == 3) = true := by rw [h3]; rfl
        have hch : chg P E = some { P with f9 := P.f9.take E.f1.toNat ++ P.f9.drop (E.f1.toNat + 1) } := by unfold chg; rw [if_neg h1, if_pos (.inr h3), if_pos hr, if_neg (by omega)]
        have HCH := Aside0.mk hch
        have hr0 := hr.1
        have hr1 := hr.2
        have hrn : E.f1.toNat < P.f9.length := by omega
        have HLN : Aside0 ((P.f9.take E.f1.toNat ++ P.f9.drop (E.f1.toNat + 1)).length = P.f9.length - 1) := ⟨by simp; omega⟩
        obtain ⟨q9, cq9, hv, hbq9, hlo9⟩ := R_head M9.out (fun h => by rw [h] at hrn; simp at hrn)
        obtain ⟨rfl, rfl⟩ : B9 = some ⟨q9, 0, none⟩ ∧ d9 = cq9 := by injection hv with a _ b; exact ⟨a, b⟩
        have hlo9' : lo9 ≤ q9 := hlo9
        clear hch hv hlo9
        go_upto_region 14 with (fail)
        clear k1 k2 k3 e0
        have n0_ := Aside0.mk (blk_drew BP.out)
        have n1_ := Aside0.mk (blk_drew BE.out)
        have n2_ := Aside0.mk (below_drew1 HB.out)
        clear BP BE HB
        have BP := n0_
        have BE := n1_
        have HB := n2_
        clear n0_ n1_ n2_
        have M9w := Aside0.mk (Kd.R_mono (ok' := fun _ => True) (Kd.R_below M9.out HB.out) (fun _ _ => trivial))
        have hgq : g ≠ q9 := fun h => Kd.R_ne M9w.out BP.out (by decide) (by rw [h]; rfl)
        have hgE : w.heap.size ≠ q9 := fun h => Kd.R_ne M9w.out BE.out (by decide) (by rw [h]; rfl)
        refine start_ (n := 14) (S := fun w' => w'.cell? ⟨g, 9, none⟩ = some (.slice (some ⟨q9, 0, none⟩) P.f9.length d9) ∧ w'.cell? ⟨w.heap.size, 1, none⟩ = some (.int .i64 E.f1)) (ds := [13]) #[false, false, false, false, false, false, false, false, false, false, false, false, false, false] (by kernel_rfl) rfl rfl ⟨(blk_cell BP.out 9).trans rfl, (blk_cell BE.out 1).trans rfl⟩ (fun hHeld => ?_)
        refine with_tabW change.tab14 change.bits14 (fun HT_ HW_ => ?_)
        refine pure_ (i := 0) (N := some 79) (v := ?_) (a' := ?_) #[true, false, false, false, false, false, false, false, false, false, false, false, false, false] rfl rfl (any_of HT_.out (by kernel_rfl)) (fun _ _ _ h => h) (Or.inl ⟨by rfl, ?_⟩) ?_ ?_
        rotate_left
        · intro w'
          go_simp
          with_reducible rfl
        rotate_left
        · simp only [Act.put, List.setIfInBounds_toArray, List.set_cons_zero, List.set_cons_succ, i64_w, i32_w]
          rfl
        refine pure_ (i := 1) (N := some 80) (v := ?_) (a' := ?_) #[true, true, false, false, false, false, false, false, false, false, false, false, false, false] rfl rfl (any_of HT_.out (by kernel_rfl)) (fun _ _ _ h => h) (Or.inl ⟨by rfl, ?_⟩) ?_ ?_
        rotate_left
        · intro w'
          go_simp
          with_reducible rfl
        rotate_left
        · simp only [Act.put, List.setIfInBounds_toArray, List.set_cons_zero, List.set_cons_succ, i64_w, i32_w]
          rfl
        refine pure_ (i := 2) (N := some 81) (v := ?_) (a' := ?_) #[true, true, true, false, false, false, false, false, false, false, false, false, false, false] rfl rfl (any_of HT_.out (by kernel_rfl)) (fun _ _ _ h => h) (Or.inl ⟨by rfl, ?_⟩) ?_ ?_
        rotate_left
        · intro w'
          go_simp
          with_reducible rfl
        rotate_left
        · simp only [Act.put, List.setIfInBounds_toArray, List.set_cons_zero, List.set_cons_succ, i64_w, i32_w]
          rfl
        refine pure_ (i := 3) (N := some 82) (v := ?_) (a' := ?_) #[true, true, true, true, false, false, false, false, false, false, false, false, false, false] rfl rfl (any_of HT_.out (by kernel_rfl)) (fun _ _ _ h => h) (Or.inl ⟨by rfl, ?_⟩) ?_ ?_
        rotate_left
        · intro w'
          go_simp
          with_reducible rfl
        rotate_left
        · simp only [Act.put, List.setIfInBounds_toArray, List.set_cons_zero, List.set_cons_succ, i64_w, i32_w]
          rfl
        refine pure_ (i := 5) (N := some 84) (v := ?_) (a' := ?_) #[true, true, true, true, false, true, false, false, false, false, false, false, false, false] rfl rfl (any_of HT_.out (by kernel_rfl)) (fun _ _ _ h => h) (Or.inl ⟨by rfl, ?_⟩) ?_ ?_
        rotate_left
        · intro w'
          go_simp
          with_reducible rfl
        rotate_left
        · simp only [Act.put, List.setIfInBounds_toArray, List.set_cons_zero, List.set_cons_succ, i64_w, i32_w]
          rfl
        refine pure_ (i := 7) (N := some 86) (v := ?_) (a' := ?_) #[true, true, true, true, false, true, false, true, false, false, false, false, false, false] rfl rfl (any_of HT_.out (by kernel_rfl)) (fun _ _ _ h => h) (Or.inl ⟨by rfl, ?_⟩) ?_ ?_
        rotate_left
        · intro w'
          go_simp
          with_reducible rfl
        rotate_left
        · simp only [Act.put, List.setIfInBounds_toArray, List.set_cons_zero, List.set_cons_succ, i64_w, i32_w]
          rfl
        refine take_ (i := 4) (N := some 83) (v := ?_) (a' := ?_) #[true, true, true, true, true, true, false, true, false, false, false, false, false, false] rfl rfl (take_ofW HT_.out HW_.out (by kernel_rfl)) (fun _ _ _ h => h) (Or.inl ⟨by rfl, ?_⟩) hHeld ?_ ?_
        rotate_left
        · rintro w' ⟨s0, s1⟩
          go_simp
          with_reducible rfl
        rotate_left
        · simp only [Act.put, List.setIfInBounds_toArray, List.set_cons_zero, List.set_cons_succ, i64_w, i32_w]
          rfl
        refine take_ (i := 6) (N := some 85) (v := ?_) (a' := ?_) #[true, true, true, true, true, true, true, true, false, false, false, false, false, false] rfl rfl (take_ofW HT_.out HW_.out (by kernel_rfl)) (fun _ _ _ h => h) (Or.inl ⟨by rfl, ?_⟩) hHeld ?_ ?_
        rotate_left
        · rintro w' ⟨s0, s1⟩
          go_simp
          with_reducible rfl
        rotate_left
        · simp only [Act.put, List.setIfInBounds_toArray, List.set_cons_zero, List.set_cons_succ, i64_w, i32_w]
          rfl
        refine take_ (i := 8) (N := some 87) (v := ?_) (a' := ?_) #[true, true, true, true, true, true, true, true, true, false, false, false, false, false] rfl rfl (take_ofW HT_.out HW_.out (by kernel_rfl)) (fun _ _ _ h => h) (Or.inl ⟨by rfl, ?_⟩) hHeld ?_ ?_
        rotate_left
        · rintro w' ⟨s0, s1⟩
          go_simp
          with_reducible rfl
        rotate_left
        · simp only [Act.put, List.setIfInBounds_toArray, List.set_cons_zero, List.set_cons_succ, i64_w, i32_w]
          rfl
        refine pure_ (i := 9) (N := some 88) (v := ?_) (a' := ?_) #[true, true, true, true, true, true, true, true, true, true, false, false, false, false] rfl rfl (any_of HT_.out (by kernel_rfl)) (fun _ _ _ h => h) (Or.inl ⟨by rfl, ?_⟩) ?_ ?_
        rotate_left
        · intro w'
          go_simp
          with_reducible rfl
        rotate_left
        · simp only [Act.put, List.setIfInBounds_toArray, List.set_cons_zero, List.set_cons_succ, i64_w, i32_w]
          rfl
        refine one_ (i := 10) (N := some 89) #[true, true, true, true, true, true, true, true, true, true, true, false, false, false] rfl rfl (one_of HT_.out (by kernel_rfl)) (by decide) (fun K hK => ?_)
        refine goes_ Tryd.func43 (by kernel_rfl) rfl #[.slice (some ⟨q9, 0, none⟩) P.f9.length d9, .int .i64 E.f1, .int .i64 (Go.RowKit.wrap64 (E.f1 + 1))] (by rfl) rfl rfl (by first | rfl | (simp only [List.map_toArray, List.map_cons, List.map_nil]; rfl)) ?_
        refine (delete_rules_z P.f9 E.f1 _ _ M9w.out hr0 hr1 (by omega) (by rw [IntWalk.wrap64_in _ (by omega)])).mono ?_
        rintro e w6 ⟨rfl, hRd, ho, hbl⟩
        refine ⟨_, rfl, ?_⟩
        have n0_ := Aside0.mk ((ho g hgq).trans BP.out)
        have n1_ := Aside0.mk ((ho w.heap.size hgE).trans BE.out)
        have HR := Aside0.mk hRd
        have HBZ := Aside0.mk (hbl _ _ (hBb _ HB.out) hbq9)
        have N2 := Aside0.mk (Kd.R_step (Kd.R_below M2.out HB.out) (fun x hx _ => ho x (by have hx' : lo2 ≤ x ∧ x < hi2 := hx; omega)))
        have N3 := Aside0.mk (Kd.R_step (Kd.R_below M3.out HB.out) (fun x hx _ => ho x (by have hx' : lo3 ≤ x ∧ x < hi3 := hx; omega)))
        have N4 := Aside0.mk (Kd.R_step (Kd.R_below M4.out HB.out) (fun x hx _ => ho x (by have hx' : lo4 ≤ x ∧ x < hi4 := hx; omega)))
        have N6 := Aside0.mk (Kd.R_step (Kd.R_below M6.out HB.out) (fun x hx _ => ho x (by have hx' : lo6 ≤ x ∧ x < hi6 := hx; omega)))
        have N7 := Aside0.mk (Kd.R_step (Kd.R_below M7.out HB.out) (fun x hx _ => ho x (by have hx' : lo7 ≤ x ∧ x < hi7 := hx; omega)))
        have N8 := Aside0.mk (Kd.R_step (Kd.R_below M8.out HB.out) (fun x hx _ => ho x (by have hx' : lo8 ≤ x ∧ x < hi8 := hx; omega)))
        clear BP BE ho hbl hRd
        have BP := n0_
        have BE := n1_
        clear n0_ n1_
        refine hK.out _ _ ⟨(blk_cell BP.out 9).trans rfl, (blk_cell BE.out 1).trans rfl⟩ (fun hHeld => ?_)
        clear hK K
        refine norm_ (a' := ?_) ?_ ?_
        rotate_left
        · show Act.put _ (some 89) _ = _
          simp only [Act.put, List.setIfInBounds_toArray, List.set_cons_zero, List.set_cons_succ, i64_w, i32_w]
          rfl
        refine pure_ (i := 11) (N := some 90) (v := ?_) (a' := ?_) #[true, true, true, true, true, true, true, true, true, true, true, true, false, false] rfl rfl (any_of HT_.out (by kernel_rfl)) (fun _ _ _ h => h) (Or.inl ⟨by rfl, ?_⟩) ?_ ?_
        rotate_left
        · intro w'
          go_simp
          with_reducible rfl
        rotate_left
        · simp only [Act.put, List.setIfInBounds_toArray, List.set_cons_zero, List.set_cons_succ, i64_w, i32_w]
          rfl
        refine pure_ (i := 12) (N := some 91) (v := ?_) (a' := ?_) #[true, true, true, true, true, true, true, true, true, true, true, true, true, false] rfl rfl (any_of HT_.out (by kernel_rfl)) (fun _ _ _ h => h) (Or.inl ⟨by rfl, ?_⟩) ?_ ?_
        rotate_left
        · intro w'
          go_simp
          with_reducible rfl
        rotate_left
        · simp only [Act.put, List.setIfInBounds_toArray, List.set_cons_zero, List.set_cons_succ, i64_w, i32_w]
          rfl
        refine last_ (i := 13) (N := none) #[true, true, true, true, true, true, true, true, true, true, true, true, true, true] rfl rfl (one_of HT_.out (by kernel_rfl)) (by decide) (fun K hK => ?_)
        have sc : w6.cell? ⟨g, 9, none⟩ = some (.slice (some ⟨q9, 0, none⟩) P.f9.length d9) := (blk_cell BP.out 9).trans rfl
        have sf := blk_frozen BP.out 9
        refine skip_ (w1 := ?_) (by rfl) rfl ?_ ?_
        rotate_left
        · go_simp
          rfl
        clear sc sf
        refine hK.out _ _ ?_
        clear hK K
        refine done_ (done_of HT_.out (by kernel_rfl)) ?_
        have HF := Aside0.mk (fin_set { P with f9 := P.f9.take E.f1.toNat ++ P.f9.drop (E.f1.toNat + 1) } 9 (.slice (some ⟨q9, 0, none⟩) (P.f9.length - 1) d9) BP.out N2.out N3.out N4.out N6.out N7.out N8.out HR.out rfl)
        have HBF := Aside0.mk (HBZ.out.setCell (p := ⟨g, 9, none⟩) hg (.slice (some ⟨q9, 0, none⟩) (P.f9.length - 1) d9))
        go_wp2_with fail
        go_ret
        exact ⟨by unfold ChangeTo; rw [HCH.out]; exact ⟨rfl, HF.out⟩, HBF.out⟩
  have h2 : ¬ E.f0 = 2 := fun h => h23 (.inl h)
  have h3 : ¬ E.f0 = 3 := fun h => h23 (.inr h)
  have k2 : (E.f0 == 2) = false := beq_eq_false_iff_ne.mpr h2
  have k3 : (E.f0 == 3) = false := beq_eq_false_iff_ne.mpr h3
  by_cases h456 : E.f0 = 4 ∨ E.f0 = 5 ∨ E.f0 = 6
  · cases m6 with
    | false =>
      have hr : ¬ (0 ≤ E.f3 ∧ E.f3 < P.f2.length) := by have := HM6.out; simpa using this.symm
      have HR := Aside0.mk hr
      clear hr
      rcases h456 with h | h | h
      · have h4 := h
        have k4 : (E.f0 == 4) = true := beq_iff_eq.mpr h4
        have hch : chg P E = none := by unfold chg; rw [if_neg h1, if_neg h23, if_pos (.inl h), if_neg HR.out]
        have HCH := Aside0.mk hch
        clear hch
        go_wp2_with fail
        go_ret
        exact ⟨by unfold ChangeTo; rw [HCH.out]; exact ⟨5, by decide, rfl⟩, hBb _ HB.out⟩
      · have h5 := h
        have k4 : (E.f0 == 4) = false := by rw [h]; rfl
        have k5 : (E.f0 == 5) = true := beq_iff_eq.mpr h5
        have hch : chg P E = none := by unfold chg; rw [if_neg h1, if_neg h23, if_pos (.inr (.inl h)), if_neg HR.out]
        have HCH := Aside0.mk hch
        clear hch
        go_wp2_with fail
        go_ret
        exact ⟨by unfold ChangeTo; rw [HCH.out]; exact ⟨5, by decide, rfl⟩, hBb _ HB.out⟩
      · have h6 := h
        have k4 : (E.f0 == 4) = false := by rw [h]; rfl
        have k5 : (E.f0 == 5) = false := by rw [h]; rfl
        have k6 : (E.f0 == 6) = true := beq_iff_eq.mpr h6
        have hch : chg P E = none := by unfold chg; rw [if_neg h1, if_neg h23, if_pos (.inr (.inr h)), if_neg HR.out]
        have HCH := Aside0.mk hch
        clear hch
        go_wp2_with fail
        go_ret
        exact ⟨by unfold ChangeTo; rw [HCH.out]; exact ⟨5, by decide, rfl⟩, hBb _ HB.out⟩
    | true =>
      have hr : 0 ≤ E.f3 ∧ E.f3 < P.f2.length := by have := HM6.out; simpa using this.symm
      rcases h456 with h | h | h6
      · cases m8 with
        | true =>
          have k4 : (E.f0 == 4) = true := by rw [h]; rfl
          have k5 : (E.f0 == 5) = false := by rw [h]; rfl
          have k6 : (E.f0 == 6) = false := by rw [h]; rfl
          have hin : P.f7.contains E.f3 = true := HM8.out.symm
          have hch : chg P E = none := by unfold chg; rw [if_neg h1, if_neg h23, if_pos (by omega), if_pos hr, if_neg (by omega), if_neg (by rw [hin]; simp [h])]
          have HCH := Aside0.mk hch
          clear hch hin
          go_wp2_with fail
          go_ret
          exact ⟨by unfold ChangeTo; rw [HCH.out]; exact ⟨1, by decide, rfl⟩, hBb _ HB.out⟩
        | false =>
          have k4 : (E.f0 == 4) = true := by rw [h]; rfl
          have k5 : (E.f0 == 5) = false := by rw [h]; rfl
          have k6 : (E.f0 == 6) = false := by rw [h]; rfl
          have hin : P.f7.contains E.f3 = false := HM8.out.symm
          have hlo7 : lo7 ≤ g7 ∧ g7 < hi7 := M7.out.1 g7 rfl
          have hbg7 : base ≤ g7 := by
            obtain ⟨inner, ho⟩ := Kd.R_own M7.out
            exact own_base ho g7 rfl
          have hpn := posIn_le P.f7 E.f3
          have hch : chg P E = some { P with f7 := P.f7.take (posIn P.f7 E.f3) ++ E.f3 :: P.f7.drop (posIn P.f7 E.f3) } := by unfold chg; rw [if_neg h1, if_neg h23, if_pos (.inl h), if_pos hr, if_neg (by omega), if_pos (by rw [hin]; simp [h]), if_neg (by omega)]
          have HCH := Aside0.mk hch
          have hln := List.length_pos_iff.2 HNE.out
          clear hch hin
          generalize posIn P.f7 E.f3 = ps at *
          go_upto_region 18 with (fail)
          clear k1 k2 k3 k4 k5 k6 e0
          have n0_ := Aside0.mk (blk_drew BP.out)
          have n1_ := Aside0.mk (blk_drew BE.out)
          have n2_ := Aside0.mk (below_drew1 HB.out)
          clear BP BE HB
          have BP := n0_
          have BE := n1_
          have HB := n2_
          clear n0_ n1_ n2_
          have M7w := Aside0.mk (Kd.R_mono (ok' := fun _ => True) (Kd.R_below M7.out HB.out) (fun _ _ => trivial))
          have hgq : g ≠ g7 := fun h => Kd.R_ne M7w.out BP.out (by decide) (by rw [h]; rfl)
          have hgE : w.heap.size ≠ g7 := fun h => Kd.R_ne M7w.out BE.out (by decide) (by rw [h]; rfl)
          refine start_ (n := 13) (S := fun w' => w'.cell? ⟨g, 7, none⟩ = some (.slice (some ⟨g7, 0, none⟩) P.f7.length d7) ∧ w'.cell? ⟨w.heap.size, 20, none⟩ = some (.int .i64 E.f3)) (ds := [12]) #[false, false, false, false, false, false, false, false, false, false, false, false, false] (by kernel_rfl) rfl rfl ⟨(blk_cell BP.out 7).trans rfl, (blk_cell BE.out 20).trans rfl⟩ (fun hHeld => ?_)
          refine with_tabW change.tab18 change.bits18 (fun HT_ HW_ => ?_)
          refine pure_ (i := 0) (N := some 96) (v := ?_) (a' := ?_) #[true, false, false, false, false, false, false, false, false, false, false, false, false] rfl rfl (any_of HT_.out (by kernel_rfl)) (fun _ _ _ h => h) (Or.inl ⟨by rfl, ?_⟩) ?_ ?_
          rotate_left
          · intro w'
            go_simp
            with_reducible rfl
          rotate_left
          · simp only [Act.put, List.setIfInBounds_toArray, List.set_cons_zero, List.set_cons_succ, i64_w, i32_w]
            rfl
          refine pure_ (i := 1) (N := some 97) (v := ?_) (a' := ?_) #[true, true, false, false, false, false, false, false, false, false, false, false, false] rfl rfl (any_of HT_.out (by kernel_rfl)) (fun _ _ _ h => h) (Or.inl ⟨by rfl, ?_⟩) ?_ ?_
          rotate_left
          · intro w'
            go_simp
            with_reducible rfl
          rotate_left
          · simp only [Act.put, List.setIfInBounds_toArray, List.set_cons_zero, List.set_cons_succ, i64_w, i32_w]
            rfl
          refine pure_ (i := 2) (N := some 98) (v := ?_) (a' := ?_) #[true, true, true, false, false, false, false, false, false, false, false, false, false] rfl rfl (any_of HT_.out (by kernel_rfl)) (fun _ _ _ h => h) (Or.inl ⟨by rfl, ?_⟩) ?_ ?_
          rotate_left
          · intro w'
            go_simp
            with_reducible rfl
          rotate_left
          · simp only [Act.put, List.setIfInBounds_toArray, List.set_cons_zero, List.set_cons_succ, i64_w, i32_w]
            rfl
          refine pure_ (i := 3) (N := some 99) (v := ?_) (a' := ?_) #[true, true, true, true, false, false, false, false, false, false, false, false, false] rfl rfl (any_of HT_.out (by kernel_rfl)) (fun _ _ _ h => h) (Or.inl ⟨by rfl, ?_⟩) ?_ ?_
          rotate_left
          · intro w'
            go_simp
            with_reducible rfl
          rotate_left
          · simp only [Act.put, List.setIfInBounds_toArray, List.set_cons_zero, List.set_cons_succ, i64_w, i32_w]
            rfl
          refine pure_ (i := 5) (N := some 101) (v := ?_) (a' := ?_) #[true, true, true, true, false, true, false, false, false, false, false, false, false] rfl rfl (any_of HT_.out (by kernel_rfl)) (fun _ _ _ h => h) (Or.inl ⟨by rfl, ?_⟩) ?_ ?_
          rotate_left
          · intro w'
            go_simp
            with_reducible rfl
          rotate_left
          · simp only [Act.put, List.setIfInBounds_toArray, List.set_cons_zero, List.set_cons_succ, i64_w, i32_w]
            rfl
          refine pure_ (i := 6) (N := some 102) (v := ?_) (a' := ?_) #[true, true, true, true, false, true, true, false, false, false, false, false, false] rfl rfl (any_of HT_.out (by kernel_rfl)) (fun _ _ _ h => h) (Or.inl ⟨by rfl, ?_⟩) ?_ ?_
          rotate_left
          · intro w'
            go_simp
            with_reducible rfl
          rotate_left
          · simp only [Act.put, List.setIfInBounds_toArray, List.set_cons_zero, List.set_cons_succ, i64_w, i32_w]
            rfl
          refine take_ (i := 4) (N := some 100) (v := ?_) (a' := ?_) #[true, true, true, true, true, true, true, false, false, false, false, false, false] rfl rfl (take_ofW HT_.out HW_.out (by kernel_rfl)) (fun _ _ _ h => h) (Or.inl ⟨by rfl, ?_⟩) hHeld ?_ ?_
          rotate_left
          · rintro w' ⟨s0, s1⟩
            go_simp
            with_reducible rfl
          rotate_left
          · simp only [Act.put, List.setIfInBounds_toArray, List.set_cons_zero, List.set_cons_succ, i64_w, i32_w]
            rfl
          refine take_ (i := 7) (N := some 103) (v := ?_) (a' := ?_) #[true, true, true, true, true, true, true, true, false, false, false, false, false] rfl rfl (take_ofW HT_.out HW_.out (by kernel_rfl)) (fun _ _ _ h => h) (Or.inl ⟨by rfl, ?_⟩) hHeld ?_ ?_
          rotate_left
          · rintro w' ⟨s0, s1⟩
            go_simp
            with_reducible rfl
          rotate_left
          · simp only [Act.put, List.setIfInBounds_toArray, List.set_cons_zero, List.set_cons_succ, i64_w, i32_w]
            rfl
          refine one_ (i := 8) (N := some 104) #[true, true, true, true, true, true, true, true, true, false, false, false, false] rfl rfl (one_of HT_.out (by kernel_rfl)) (by decide) (fun K hK => ?_)
          refine value_ (w1 := ?_) (v := ?_) (by rfl) rfl ?_ ?_
          rotate_left 2
          · go_simp
            constructor
            · rfl
            · rfl
          obtain ⟨w5, hw5⟩ : ∃ w5, w5 = (w4.alloc (.cells #[.int .i64 E.f3] 3)).drew := ⟨_, rfl⟩
          rw [← hw5]
          have BV : Aside0 (w5.heap[w4.heap.size]? = some (.cells #[.int .i64 E.f3] 3 (0, 0))) := ⟨by rw [hw5]; exact heap_alloc_new w4 _⟩
          have hvb : w4.heap.size ≠ g7 := by obtain ⟨inner, ho⟩ := Kd.R_own M7w.out; have hx := own_lt ho g7 rfl; have hx2 : g7 < w4.heap.size := hx; omega
          have hbB : Below w4.drew.heap.size w4.drew w5 := by rw [hw5]; show Below _ w4.drew (w4.drew.alloc _); exact (Below.refl _ _).alloc (Nat.le_refl _) _
          have n0_ := Aside0.mk (blk_below BP.out hbB)
          have n1_ := Aside0.mk (blk_below BE.out hbB)
          have n2_ := Aside0.mk (HB.out.trans (hbB.mono HB.out.size))
          have n3_ := Aside0.mk (Kd.R_below M7w.out hbB)
          clear BP BE HB M7w hbB hw5
          have BP := n0_
          have BE := n1_
          have HB := n2_
          have M7w := n3_
          clear n0_ n1_ n2_ n3_
          generalize w4.heap.size = vb at *
          refine hK.out _ _ ⟨(blk_cell BP.out 7).trans rfl, (blk_cell BE.out 20).trans rfl⟩ (fun hHeld => ?_)
          clear hK K
          refine norm_ (a' := ?_) ?_ ?_
          rotate_left
          · show Act.put _ (some 104) _ = _
            simp only [Act.put, List.setIfInBounds_toArray, List.set_cons_zero, List.set_cons_succ, i64_w, i32_w]
            rfl
          refine one_ (i := 9) (N := some 105) #[true, true, true, true, true, true, true, true, true, true, false, false, false] rfl rfl (one_of HT_.out (by kernel_rfl)) (by decide) (fun K hK => ?_)
          refine goes_ Tryd.func45 (by kernel_rfl) rfl #[.slice (some ⟨g7, 0, none⟩) P.f7.length d7, .int .i64 ps, .slice (some ⟨vb, 0, none⟩) 1 1] (by rfl) rfl rfl (by first | rfl | (simp only [List.map_toArray, List.map_cons, List.map_nil]; rfl)) ?_
          refine (insert_int P.f7 E.f3 _ M7w.out hpn hln (by omega) (Nat.le_trans hbw HB.out.size) BV.out hvb).mono ?_
          rintro e w6 ⟨q', c', rfl, hRd, ho, hbl⟩
          refine ⟨_, rfl, ?_⟩
          have n0_ := Aside0.mk ((ho g hgq (blk_lt BP.out)).trans BP.out)
          have n1_ := Aside0.mk ((ho w.heap.size hgE (blk_lt BE.out)).trans BE.out)
          have HR := Aside0.mk hRd
          have HBZ := Aside0.mk (hbl _ _ (hBb _ HB.out) hbg7)
          have N2 := Aside0.mk (Kd.R_step (Kd.R_below M2.out HB.out) (fun x hx hxl => ho x (by have hx' : lo2 ≤ x ∧ x < hi2 := hx; omega) hxl))
          have N3 := Aside0.mk (Kd.R_step (Kd.R_below M3.out HB.out) (fun x hx hxl => ho x (by have hx' : lo3 ≤ x ∧ x < hi3 := hx; omega) hxl))
          have N4 := Aside0.mk (Kd.R_step (Kd.R_below M4.out HB.out) (fun x hx hxl => ho x (by have hx' : lo4 ≤ x ∧ x < hi4 := hx; omega) hxl))
          have N6 := Aside0.mk (Kd.R_step (Kd.R_below M6.out HB.out) (fun x hx hxl => ho x (by have hx' : lo6 ≤ x ∧ x < hi6 := hx; omega) hxl))
          have N8 := Aside0.mk (Kd.R_step (Kd.R_below M8.out HB.out) (fun x hx hxl => ho x (by have hx' : lo8 ≤ x ∧ x < hi8 := hx; omega) hxl))
          have N9 := Aside0.mk (Kd.R_step (Kd.R_below M9.out HB.out) (fun x hx hxl => ho x (by have hx' : lo9 ≤ x := hx; omega) hxl))
          clear BP BE ho hbl hRd
          have BP := n0_
          have BE := n1_
          clear n0_ n1_
          refine hK.out _ _ ⟨(blk_cell BP.out 7).trans rfl, (blk_cell BE.out 20).trans rfl⟩ (fun hHeld => ?_)
          clear hK K
          refine norm_ (a' := ?_) ?_ ?_
          rotate_left
          · show Act.put _ (some 105) _ = _
            simp only [Act.put, List.setIfInBounds_toArray, List.set_cons_zero, List.set_cons_succ, i64_w, i32_w]
            rfl
          refine pure_ (i := 10) (N := some 106) (v := ?_) (a' := ?_) #[true, true, true, true, true, true, true, true, true, true, true, false, false] rfl rfl (any_of HT_.out (by kernel_rfl)) (fun _ _ _ h => h) (Or.inl ⟨by rfl, ?_⟩) ?_ ?_
          rotate_left
          · intro w'
            go_simp
            with_reducible rfl
          rotate_left
          · simp only [Act.put, List.setIfInBounds_toArray, List.set_cons_zero, List.set_cons_succ, i64_w, i32_w]
            rfl
          refine pure_ (i := 11) (N := some 107) (v := ?_) (a' := ?_) #[true, true, true, true, true, true, true, true, true, true, true, true, false] rfl rfl (any_of HT_.out (by kernel_rfl)) (fun _ _ _ h => h) (Or.inl ⟨by rfl, ?_⟩) ?_ ?_
          rotate_left
          · intro w'
            go_simp
            with_reducible rfl
          rotate_left
          · simp only [Act.put, List.setIfInBounds_toArray, List.set_cons_zero, List.set_cons_succ, i64_w, i32_w]
            rfl
          refine last_ (i := 12) (N := none) #[true, true, true, true, true, true, true, true, true, true, true, true, true] rfl rfl (one_of HT_.out (by kernel_rfl)) (by decide) (fun K hK => ?_)
          have sc : w6.cell? ⟨g, 7, none⟩ = some (.slice (some ⟨g7, 0, none⟩) P.f7.length d7) := (blk_cell BP.out 7).trans rfl
          have sf := blk_frozen BP.out 7
          refine skip_ (w1 := ?_) (by rfl) rfl ?_ ?_
          rotate_left
          · go_simp
            rfl
          clear sc sf
          refine hK.out _ _ ?_
          clear hK K
          refine done_ (done_of HT_.out (by kernel_rfl)) ?_
          have HF := Aside0.mk (fin_set { P with f7 := P.f7.take ps ++ E.f3 :: P.f7.drop ps } 7 (.slice (some ⟨q', 0, none⟩) (P.f7.length + 1) c') BP.out N2.out N3.out N4.out N6.out HR.out N8.out N9.out rfl)
          have HBF := Aside0.mk (HBZ.out.setCell (p := ⟨g, 7, none⟩) hg (.slice (some ⟨q', 0, none⟩) (P.f7.length + 1) c'))
          go_wp2_with fail
          go_ret
          exact ⟨by unfold ChangeTo; rw [HCH.out]; exact ⟨rfl, HF.out⟩, HBF.out⟩
      · cases m8 with
        | true =>
          have k4 : (E.f0 == 4) = false := by rw [h]; rfl
          have k5 : (E.f0 == 5) = true := by rw [h]; rfl
          have k6 : (E.f0 == 6) = false := by rw [h]; rfl
          have hin : P.f7.contains E.f3 = true := HM8.out.symm
          have hlo7 : lo7 ≤ g7 ∧ g7 < hi7 := M7.out.1 g7 rfl
          have hbg7 : base ≤ g7 := by
            obtain ⟨inner, ho⟩ := Kd.R_own M7.out
            exact own_base ho g7 rfl
          have hpn : posIn P.f7 E.f3 < P.f7.length := by
            have h0 := posIn_le P.f7 E.f3
            rcases Nat.lt_or_eq_of_le h0 with hh | hh
            · exact hh
            · have h2 := congrArg List.length (sorted_take_drop P.f7 E.f3 HS.out hin)
              rw [hh, List.take_of_length_le (Nat.le_refl _)] at h2
              simp at h2
          have hch : chg P E = some { P with f7 := P.f7.take (posIn P.f7 E.f3) ++ P.f7.drop (posIn P.f7 E.f3 + 1) } := by unfold chg; rw [if_neg h1, if_neg h23, if_pos (.inr (.inl h)), if_pos hr, if_neg (by omega), if_pos (by rw [hin]; simp [h]), if_pos h]
          have HCH := Aside0.mk hch
          have HLN : Aside0 ((P.f7.take (posIn P.f7 E.f3) ++ P.f7.drop (posIn P.f7 E.f3 + 1)).length = P.f7.length - 1) := ⟨by simp; omega⟩
          clear hch hin
          have M7w := Aside0.mk (Kd.R_mono (ok' := fun _ => True) (Kd.R_below M7.out HB.out) (fun _ _ => trivial))
          have hgq : g ≠ g7 := fun h => Kd.R_ne M7w.out BP.out (by decide) (by rw [h]; rfl)
          have p7 : w4.cell? ⟨g, 7, none⟩ = some (.slice (some ⟨g7, 0, none⟩) P.f7.length d7) := (blk_cell BP.out 7).trans rfl
          generalize posIn P.f7 E.f3 = ps at *
          go_wp2_with fail
          refine (delete_int P.f7 w4 M7w.out hpn (by omega)).mono ?_
          rintro e w6 ⟨rfl, hRd, ho, hbl⟩
          have n0_ := Aside0.mk ((ho g hgq).trans BP.out)
          have HR := Aside0.mk hRd
          have HBZ := Aside0.mk (hbl _ _ (hBb _ HB.out) hbg7)
          have N2 := Aside0.mk (Kd.R_step (Kd.R_below M2.out HB.out) (fun x hx _ => ho x (by have hx' : lo2 ≤ x ∧ x < hi2 := hx; omega)))
          have N3 := Aside0.mk (Kd.R_step (Kd.R_below M3.out HB.out) (fun x hx _ => ho x (by have hx' : lo3 ≤ x ∧ x < hi3 := hx; omega)))
          have N4 := Aside0.mk (Kd.R_step (Kd.R_below M4.out HB.out) (fun x hx _ => ho x (by have hx' : lo4 ≤ x ∧ x < hi4 := hx; omega)))
          have N6 := Aside0.mk (Kd.R_step (Kd.R_below M6.out HB.out) (fun x hx _ => ho x (by have hx' : lo6 ≤ x ∧ x < hi6 := hx; omega)))
          have N8 := Aside0.mk (Kd.R_step (Kd.R_below M8.out HB.out) (fun x hx _ => ho x (by have hx' : lo8 ≤ x ∧ x < hi8 := hx; omega)))
          have N9 := Aside0.mk (Kd.R_step (Kd.R_below M9.out HB.out) (fun x hx _ => ho x (by have hx' : lo9 ≤ x := hx; omega)))
          clear BP ho hbl hRd p7
          have BP := n0_
          clear n0_
          have p7 : w6.cell? ⟨g, 7, none⟩ = some (.slice (some ⟨g7, 0, none⟩) P.f7.length d7) := (blk_cell BP.out 7).trans rfl
          have f7 := blk_frozen BP.out 7
          have HF := Aside0.mk (fin_set { P with f7 := P.f7.take ps ++ P.f7.drop (ps + 1) } 7 (.slice (some ⟨g7, 0, none⟩) (P.f7.length - 1) d7) BP.out N2.out N3.out N4.out N6.out HR.out N8.out N9.out rfl)
          have HBF := Aside0.mk (HBZ.out.setCell (p := ⟨g, 7, none⟩) hg (.slice (some ⟨g7, 0, none⟩) (P.f7.length - 1) d7))
          go_wp2_with fail
          go_ret
          exact ⟨by unfold ChangeTo; rw [HCH.out]; exact ⟨rfl, HF.out⟩, HBF.out⟩
        | false =>
          have k4 : (E.f0 == 4) = false := by rw [h]; rfl
          have k5 : (E.f0 == 5) = true := by rw [h]; rfl
          have k6 : (E.f0 == 6) = false := by rw [h]; rfl
          have hin : P.f7.contains E.f3 = false := HM8.out.symm
          have hch : chg P E = none := by unfold chg; rw [if_neg h1, if_neg h23, if_pos (by omega), if_pos hr, if_neg (by omega), if_neg (by rw [hin]; simp [h])]
          have HCH := Aside0.mk hch
          clear hch hin
          go_wp2_with fail
          go_ret
          exact ⟨by unfold ChangeTo; rw [HCH.out]; exact ⟨1, by decide, rfl⟩, hBb _ HB.out⟩
      · skip
        have k4 : (E.f0 == 4) = false := by rw [h6]; rfl
        have k5 : (E.f0 == 5) = false := by rw [h6]; rfl
        have k6 : (E.f0 == 6) = true := by rw [h6]; rfl
        have hch : chg P E = some { P with f2 := P.f2.set E.f3.toNat E.f4 } := by unfold chg; rw [if_neg h1, if_neg h23, if_pos (.inr (.inr h6)), if_pos hr, if_pos h6]
        have HCH := Aside0.mk hch
        have hr0 := hr.1
        have hr1 := hr.2
        have hrn : E.f3.toNat < P.f2.length := by omega
        obtain ⟨q2, cq2, hv, hbq2, hlo2⟩ := R_head M2.out (fun h => by rw [h] at hrn; simp at hrn)
        obtain ⟨rfl, rfl⟩ : B2 = some ⟨q2, 0, none⟩ ∧ d2 = cq2 := by injection hv with a _ b; exact ⟨a, b⟩
        have hlo2' : lo2 ≤ q2 ∧ q2 < hi2 := hlo2
        clear hch hv hlo2
        go_upto_region 22 with (fail)
        clear k1 k2 k3 k4 k5 k6 e0
        have n0_ := Aside0.mk (blk_drew BP.out)
        have n1_ := Aside0.mk (blk_drew BE.out)
        have n2_ := Aside0.mk (below_drew1 HB.out)
        clear BP BE HB
        have BP := n0_
        have BE := n1_
        have HB := n2_
        clear n0_ n1_ n2_
        have M2w := Aside0.mk (Kd.R_mono (ok' := fun _ => True) (Kd.R_below M2.out HB.out) (fun _ _ => trivial))
        have hgq : g ≠ q2 := fun h => Kd.R_ne M2w.out BP.out (by decide) (by rw [h]; rfl)
        refine start_ (n := 10) (S := fun w' => w'.cell? ⟨g, 2, none⟩ = some (.slice (some ⟨q2, 0, none⟩) P.f2.length d2) ∧ w'.cell? ⟨w.heap.size, 20, none⟩ = some (.int .i64 E.f3) ∧ w'.cell? ⟨w.heap.size, 21, none⟩ = some (.string E.f4)) (ds := [9]) #[false, false, false, false, false, false, false, false, false, false] (by kernel_rfl) rfl rfl ⟨(blk_cell BP.out 2).trans rfl, (blk_cell BE.out 20).trans rfl, (blk_cell BE.out 21).trans rfl⟩ (fun hHeld => ?_)
        refine with_tabW change.tab22 change.bits22 (fun HT_ HW_ => ?_)
        refine pure_ (i := 0) (N := some 115) (v := ?_) (a' := ?_) #[true, false, false, false, false, false, false, false, false, false] rfl rfl (any_of HT_.out (by kernel_rfl)) (fun _ _ _ h => h) (Or.inl ⟨by rfl, ?_⟩) ?_ ?_
        rotate_left
        · intro w'
          go_simp
          with_reducible rfl
        rotate_left
        · simp only [Act.put, List.setIfInBounds_toArray, List.set_cons_zero, List.set_cons_succ, i64_w, i32_w]
          rfl
        refine pure_ (i := 1) (N := some 116) (v := ?_) (a' := ?_) #[true, true, false, false, false, false, false, false, false, false] rfl rfl (any_of HT_.out (by kernel_rfl)) (fun _ _ _ h => h) (Or.inl ⟨by rfl, ?_⟩) ?_ ?_
        rotate_left
        · intro w'
          go_simp
          with_reducible rfl
        rotate_left
        · simp only [Act.put, List.setIfInBounds_toArray, List.set_cons_zero, List.set_cons_succ, i64_w, i32_w]
          rfl
        refine pure_ (i := 2) (N := some 117) (v := ?_) (a' := ?_) #[true, true, true, false, false, false, false, false, false, false] rfl rfl (any_of HT_.out (by kernel_rfl)) (fun _ _ _ h => h) (Or.inl ⟨by rfl, ?_⟩) ?_ ?_
        rotate_left
        · intro w'
          go_simp
          with_reducible rfl
        rotate_left
        · simp only [Act.put, List.setIfInBounds_toArray, List.set_cons_zero, List.set_cons_succ, i64_w, i32_w]
          rfl
        refine pure_ (i := 4) (N := some 119) (v := ?_) (a' := ?_) #[true, true, true, false, true, false, false, false, false, false] rfl rfl (any_of HT_.out (by kernel_rfl)) (fun _ _ _ h => h) (Or.inl ⟨by rfl, ?_⟩) ?_ ?_
        rotate_left
        · intro w'
          go_simp
          with_reducible rfl
        rotate_left
        · simp only [Act.put, List.setIfInBounds_toArray, List.set_cons_zero, List.set_cons_succ, i64_w, i32_w]
          rfl
        refine pure_ (i := 6) (N := some 121) (v := ?_) (a' := ?_) #[true, true, true, false, true, false, true, false, false, false] rfl rfl (any_of HT_.out (by kernel_rfl)) (fun _ _ _ h => h) (Or.inl ⟨by rfl, ?_⟩) ?_ ?_
        rotate_left
        · intro w'
          go_simp
          with_reducible rfl
        rotate_left
        · simp only [Act.put, List.setIfInBounds_toArray, List.set_cons_zero, List.set_cons_succ, i64_w, i32_w]
          rfl
        refine take_ (i := 3) (N := some 118) (v := ?_) (a' := ?_) #[true, true, true, true, true, false, true, false, false, false] rfl rfl (take_ofW HT_.out HW_.out (by kernel_rfl)) (fun _ _ _ h => h) (Or.inl ⟨by rfl, ?_⟩) hHeld ?_ ?_
        rotate_left
        · rintro w' ⟨s0, s1, s2⟩
          go_simp
          with_reducible rfl
        rotate_left
        · simp only [Act.put, List.setIfInBounds_toArray, List.set_cons_zero, List.set_cons_succ, i64_w, i32_w]
          rfl
        refine take_ (i := 5) (N := some 120) (v := ?_) (a' := ?_) #[true, true, true, true, true, true, true, false, false, false] rfl rfl (take_ofW HT_.out HW_.out (by kernel_rfl)) (fun _ _ _ h => h) (Or.inl ⟨by rfl, ?_⟩) hHeld ?_ ?_
        rotate_left
        · rintro w' ⟨s0, s1, s2⟩
          go_simp
          with_reducible rfl
        rotate_left
        · simp only [Act.put, List.setIfInBounds_toArray, List.set_cons_zero, List.set_cons_succ, i64_w, i32_w]
          rfl
        refine take_ (i := 7) (N := some 122) (v := ?_) (a' := ?_) #[true, true, true, true, true, true, true, true, false, false] rfl rfl (take_ofW HT_.out HW_.out (by kernel_rfl)) (fun _ _ _ h => h) (Or.inl ⟨by rfl, ?_⟩) hHeld ?_ ?_
        rotate_left
        · rintro w' ⟨s0, s1, s2⟩
          go_simp
          with_reducible rfl
        rotate_left
        · simp only [Act.put, List.setIfInBounds_toArray, List.set_cons_zero, List.set_cons_succ, i64_w, i32_w]
          rfl
        refine pure_ (i := 8) (N := some 123) (v := ?_) (a' := ?_) #[true, true, true, true, true, true, true, true, true, false] rfl rfl (any_of HT_.out (by kernel_rfl)) (fun _ _ _ h => h) (Or.inl ⟨by rfl, ?_⟩) ?_ ?_
        rotate_left
        · intro w'
          go_simp
          with_reducible rfl
        rotate_left
        · simp only [Act.put, List.setIfInBounds_toArray, List.set_cons_zero, List.set_cons_succ, i64_w, i32_w]
          rfl
        refine last_ (i := 9) (N := none) #[true, true, true, true, true, true, true, true, true, true] rfl rfl (one_of HT_.out (by kernel_rfl)) (by decide) (fun K hK => ?_)
        have sc2 : (w4.drew).cell? ⟨q2, E.f3.toNat, none⟩ = _ ∧ _ := Kd.R_celln ByteArray.empty M2w.out E.f3 hr0 hr1
        obtain ⟨sc, sf⟩ := sc2
        refine skip_ (w1 := ?_) (by rfl) rfl ?_ ?_
        rotate_left
        · go_simp
          rfl
        clear sc sf
        refine hK.out _ _ ?_
        clear hK K
        refine done_ (done_of HT_.out (by kernel_rfl)) ?_
        have M2n := Aside0.mk (Kd.R_putn M2w.out E.f3 E.f4)
        have N3 := Aside0.mk (Kd.R_far (p := ⟨q2, E.f3.toNat, none⟩) (Kd.R_below M3.out HB.out) (fun x hx => by show x ≠ q2; have hx' : lo3 ≤ x ∧ x < hi3 := hx; omega) (.string E.f4))
        have N4 := Aside0.mk (Kd.R_far (p := ⟨q2, E.f3.toNat, none⟩) (Kd.R_below M4.out HB.out) (fun x hx => by show x ≠ q2; have hx' : lo4 ≤ x ∧ x < hi4 := hx; omega) (.string E.f4))
        have N6 := Aside0.mk (Kd.R_far (p := ⟨q2, E.f3.toNat, none⟩) (Kd.R_below M6.out HB.out) (fun x hx => by show x ≠ q2; have hx' : lo6 ≤ x ∧ x < hi6 := hx; omega) (.string E.f4))
        have N7 := Aside0.mk (Kd.R_far (p := ⟨q2, E.f3.toNat, none⟩) (Kd.R_below M7.out HB.out) (fun x hx => by show x ≠ q2; have hx' : lo7 ≤ x ∧ x < hi7 := hx; omega) (.string E.f4))
        have N8 := Aside0.mk (Kd.R_far (p := ⟨q2, E.f3.toNat, none⟩) (Kd.R_below M8.out HB.out) (fun x hx => by show x ≠ q2; have hx' : lo8 ≤ x ∧ x < hi8 := hx; omega) (.string E.f4))
        have N9 := Aside0.mk (Kd.R_far (p := ⟨q2, E.f3.toNat, none⟩) (Kd.R_below M9.out HB.out) (fun x hx => by show x ≠ q2; have hx' : lo9 ≤ x := hx; omega) (.string E.f4))
        have BPn := Aside0.mk ((Below.heap_setCell w4.drew ⟨q2, E.f3.toNat, none⟩ (.string E.f4) g hgq).trans BP.out)
        have HLN : Aside0 ((P.f2.set E.f3.toNat E.f4).length = P.f2.length) := ⟨List.length_set⟩
        have HF := Aside0.mk (fin_keep { P with f2 := P.f2.set E.f3.toNat E.f4 } BPn.out M2n.out N3.out N4.out N6.out N7.out N8.out N9.out rfl)
        have HBF := Aside0.mk ((hBb _ HB.out).setCell (p := ⟨q2, E.f3.toNat, none⟩) hbq2 (.string E.f4))
        clear hgq
        go_wp2_with fail
        go_ret
        exact ⟨by unfold ChangeTo; rw [HCH.out]; exact ⟨rfl, HF.out⟩, HBF.out⟩
  have h4 : ¬ E.f0 = 4 := fun h => h456 (.inl h)
  have h5 : ¬ E.f0 = 5 := fun h => h456 (.inr (.inl h))
  have h6 : ¬ E.f0 = 6 := fun h => h456 (.inr (.inr h))
  have k4 : (E.f0 == 4) = false := beq_eq_false_iff_ne.mpr h4
  have k5 : (E.f0 == 5) = false := beq_eq_false_iff_ne.mpr h5
  have k6 : (E.f0 == 6) = false := beq_eq_false_iff_ne.mpr h6
  have hch : chg P E = none := by unfold chg; rw [if_neg h1, if_neg h23, if_neg h456]
  have HCH := Aside0.mk hch
  clear hch
  go_wp2_with fail
  go_ret
  exact ⟨by unfold ChangeTo; rw [HCH.out]; exact ⟨1, by decide, rfl⟩, hBb _ HB.out⟩
end Go.Proofs.YtoggkfapdomhgaaDoor.Pr
