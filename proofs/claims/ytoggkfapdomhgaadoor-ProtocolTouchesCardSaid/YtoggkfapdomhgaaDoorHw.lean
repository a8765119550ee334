/- Contract of Changed; conditions: each theorem's own premises. -/
import Derived.Test.YtoggkfapdomhgaaDoorHp
import Derived.Test.YtoggkfapdomhgaaDoorHl
namespace Go.Proofs.YtoggkfapdomhgaaDoor.Pr
open Go.RowKit Go.Proofs.YtoggkfapdomhgaaDoorW.PrintWords Go.Proofs.YtoggkfapdomhgaaDoorW.PrintLast Go.Proofs.YtoggkfapdomhgaaDoorW.PrintMore
set_option linter.unusedVariables false
set_option linter.unusedSimpArgs false
set_option maxRecDepth 100000
theorem blk_lst {W : World} {g t : Nat} {cs : List Value} (h : W.heap[g]? = some (.cells cs.toArray t (0, 0))) (j : Nat) (v : Value) (hj : cs[j]? = some v) : W.cell? ((⟨g, 0, none⟩ : Addr).add j) = some v := by
  rw [Addr.add_lit, Nat.zero_add, blk_cell h, List.getElem?_toArray]
  exact hj
set_option maxHeartbeats 2000000 in
theorem changed1_says (R : S30) (rc : List Value) (w : World) (g : Nat) (hb : w.heap[g]? = some (.cells rc.toArray 30 (0, 0))) (hK : k30.K w R rc) : Says 24 #[.pointer (some ⟨g, 0, none⟩)] w (fun x b => x = R → b = true) := by
  intro W x cs hB hx
  have HKR := Aside0.mk (k30.K_below hB hK)
  have HKX := Aside0.mk hx
  obtain ⟨C6, q6, C7, q7, C8, q8, C9, q9, C12, q12, C14, q14, C15, q15, C16, q16, rfl, _⟩ := k30_open hK
  obtain ⟨A6, c6, A7, c7, A8, c8, A9, c9, A12, c12, A14, c14, A15, c15, A16, c16, rfl, _⟩ := k30_open hx
  have BR := Aside0.mk (blk_below hb hB)
  clear hb hK hx hB
  show Calls Tryd.prog 24 #[.agg #[.string x.f0, .int .i64 x.f1, .int .i64 x.f2, .int .i64 x.f3, .int .i64 x.f4, .int .i64 x.f5, .slice A6 x.f6.length c6, .slice A7 x.f7.length c7, .slice A8 x.f8.length c8, .slice A9 x.f9.length c9, .int .i64 x.f10, .int .i64 x.f11, .slice A12 x.f12.length c12, .int .i64 x.f13, .slice A14 x.f14.length c14, .slice A15 x.f15.length c15, .slice A16 x.f16.length c16, .int .i64 x.f17], .pointer (some ⟨g, 0, none⟩)] W _
  go_enter Tryd.func24, Tryd.ntmps24
  go_upto_region 1 with (fail)
  obtain ⟨g2, hg2⟩ : ∃ g2, g2 = W.heap.size := ⟨_, rfl⟩
  obtain ⟨w1, hw1⟩ : ∃ w1, w1 = W.alloc (.cells #[.string x.f0, .int .i64 x.f1, .int .i64 x.f2, .int .i64 x.f3, .int .i64 x.f4, .int .i64 x.f5, .slice A6 x.f6.length c6, .slice A7 x.f7.length c7, .slice A8 x.f8.length c8, .slice A9 x.f9.length c9, .int .i64 x.f10, .int .i64 x.f11, .slice A12 x.f12.length c12, .int .i64 x.f13, .slice A14 x.f14.length c14, .slice A15 x.f15.length c15, .slice A16 x.f16.length c16, .int .i64 x.f17] 30) := ⟨_, rfl⟩
  have hB1 : Below W.heap.size W w1 := by rw [hw1]; exact (Below.refl _ _).alloc (Nat.le_refl _) _
  have BX : Aside0 (w1.heap[g2]? = some (.cells #[.string x.f0, .int .i64 x.f1, .int .i64 x.f2, .int .i64 x.f3, .int .i64 x.f4, .int .i64 x.f5, .slice A6 x.f6.length c6, .slice A7 x.f7.length c7, .slice A8 x.f8.length c8, .slice A9 x.f9.length c9, .int .i64 x.f10, .int .i64 x.f11, .slice A12 x.f12.length c12, .int .i64 x.f13, .slice A14 x.f14.length c14, .slice A15 x.f15.length c15, .slice A16 x.f16.length c16, .int .i64 x.f17] 30 (0, 0))) := ⟨by rw [hw1, hg2]; exact heap_alloc_new _ _⟩
  have BR1 := Aside0.mk (blk_below BR.out hB1)
  have HB := Aside0.mk hB1
  rw [← hw1]
  simp only [← hg2]
  clear hw1 hg2 BR hB1
  go_wp2_with (first | ((with_reducible refine gate_dst (N := 4) rfl ?_); (try (refine gate_guard (by rfl) ?_; dsimp only)); refine Kd.event_run rfl (load_run 30 (.tmp 2) rfl ⟨g2, 0, none⟩ (by go_simp) [.string x.f0, .int .i64 x.f1, .int .i64 x.f2, .int .i64 x.f3, .int .i64 x.f4, .int .i64 x.f5, .slice A6 x.f6.length c6, .slice A7 x.f7.length c7, .slice A8 x.f8.length c8, .slice A9 x.f9.length c9, .int .i64 x.f10, .int .i64 x.f11, .slice A12 x.f12.length c12, .int .i64 x.f13, .slice A14 x.f14.length c14, .slice A15 x.f15.length c15, .slice A16 x.f16.length c16, .int .i64 x.f17] (fun w => Tryd.sizeOf30 w) Tryd.isAgg30 (blk_lst BX.out)) ?_) | ((with_reducible refine gate_dst (N := 5) rfl ?_); (try (refine gate_guard (by rfl) ?_; dsimp only)); refine Kd.event_run rfl (load_run 30 (.tmp 1) rfl ⟨g, 0, none⟩ (by go_simp) [.string R.f0, .int .i64 R.f1, .int .i64 R.f2, .int .i64 R.f3, .int .i64 R.f4, .int .i64 R.f5, .slice C6 R.f6.length q6, .slice C7 R.f7.length q7, .slice C8 R.f8.length q8, .slice C9 R.f9.length q9, .int .i64 R.f10, .int .i64 R.f11, .slice C12 R.f12.length q12, .int .i64 R.f13, .slice C14 R.f14.length q14, .slice C15 R.f15.length q15, .slice C16 R.f16.length q16, .int .i64 R.f17] (fun w => Tryd.sizeOf30 w) Tryd.isAgg30 (blk_lst BR1.out)) ?_))
  refine (same_weak x R _ _ w1 (k30.K_below HB.out HKX.out) (k30.K_below HB.out HKR.out)).mono ?_
  rintro e w2 ⟨b, rfl, hb, hV⟩
  have hV2 := HB.out.trans (Below.mono hV HB.out.size)
  go_wp2_with fail
  go_ret
  exact ⟨b, rfl, hb, hV2⟩
theorem same_says : Says2 25 := fun W x y cs ds hx hy => same_weak x y cs ds W hx hy
theorem valid_zero (P : S27) (cs : List Value) (w : World) (hG : Glob w) (hP : k27.K w P cs) (hS : Small P) (hv : validE P = 0) : Calls Tryd.prog 14 #[.agg cs.toArray] w fun e w' => e = .returned (.int .i64 0) ∧ Below w.heap.size w w' := by
  have h := valid_any P cs w hG hP hS
  rw [hv] at h
  exact h
theorem first_zero (A : Option Addr) (c : Nat) (w : World) (hC : Kd.C (Kd.int .i64) w A 2 [0, 0]) : Calls Tryd.prog 22 #[.slice A 2 c] w fun e w' => e = .returned (.int .i64 0) ∧ w' = w := first_any A c [0, 0] w hC
/-- The indexes below i whose rules are new. -/
def Idx (P Q : S27) (i : Nat) (l : List Int) : Prop := l.length ≤ i ∧ l.Pairwise (· < ·) ∧ ∀ x, x ∈ l → ∃ j : Nat, x = j ∧ j < i ∧ Q.f9.getD j z30 ∉ P.f9
theorem Idx_step {P Q : S27} {i : Nat} {l : List Int} (h : Idx P Q i l) : Idx P Q (i + 1) l := ⟨Nat.le_succ_of_le h.1, h.2.1, fun x hx => by
  obtain ⟨j, a, b, c⟩ := h.2.2 x hx
  exact ⟨j, a, by omega, c⟩⟩
theorem Idx_snoc {P Q : S27} {i : Nat} {l : List Int} (h : Idx P Q i l) (hn : Q.f9.getD i z30 ∉ P.f9) : Idx P Q (i + 1) (l ++ [(i : Int)]) := by
  refine ⟨by have := h.1; simp; omega, ?_, fun x hx => ?_⟩
  · rw [List.pairwise_append]
    refine ⟨h.2.1, by simp, fun a ha b hb => ?_⟩
    obtain ⟨j, rfl, hj, _⟩ := h.2.2 a ha
    rw [List.mem_singleton.1 hb]
    omega
  · rcases List.mem_append.1 hx with hx | hx
    · obtain ⟨j, a, b, c⟩ := h.2.2 x hx
      exact ⟨j, a, by omega, c⟩
    · exact ⟨i, List.mem_singleton.1 hx, by omega, hn⟩
theorem not_mem_of {P : S27} {R : S30} (h : ∀ i, i < P.f9.length → (P.f9.getD i z30 = R → false = true)) : R ∉ P.f9 := fun hm => by
  obtain ⟨i, hi, he⟩ := List.getElem_of_mem hm
  have := h i hi (by rw [List.getD_eq_getElem?_getD, List.getElem?_eq_getElem hi]; exact he)
  cases this
/-- What Changed leaves. -/
def ChangedTo (P Q : S27) (w : World) (e : Ending) (w' : World) : Prop := ∃ (o q : Bool) (l : List Int) (A : Option Addr) (c : Nat), e = .returned (.tuple #[.agg #[.bool (!o && q), .bool o, .slice A l.length c], .int .i64 0]) ∧ Kd.C (Kd.int .i64) w' A l.length l ∧ Idx P Q Q.f9.length l ∧
  (P.f7 = Q.f7 → o = false) ∧ (P.f7.length ≠ Q.f7.length → o = true) ∧ (P.f9 = Q.f9 → q = true) ∧ (P.f9.length ≠ Q.f9.length → q = false) ∧ Below w.heap.size w w'
def changed.T1 : Bool × List (List Nat × List Nat) := (true, [([], []), ([0], [0]), ([], []), ([2, 1], [2]), ([1, 3], [1, 3]), ([4, 3], [4]), ([5, 5, 0, 1, 2, 3, 4, 5], [5])])
def changed.B1 : List Nat := [0, 1, 0, 7, 15, 31, 63]
theorem changed.tab1 : rtab .any (opsOf Tryd.f10 1) = changed.T1 := by kernel_rfl
theorem changed.bits1 : waitsOk changed.T1.2 changed.B1 = true := by kernel_rfl
set_option maxHeartbeats 8000000 in
theorem changed_any (P Q : S27) (cs ds : List Value) (w : World) (hG : Glob w) (hP : k27.K w P cs) (hQ : k27.K w Q ds) (hsP : Small P) (hsQ : Small Q) (hvP : validE P = 0) (hvQ : validE Q = 0)
    (q1 : P.f1 = Q.f1) (q2 : P.f2.length = Q.f2.length) (q3 : P.f3 = Q.f3) (q4 : P.f4 = Q.f4) (q5 : P.f5 = Q.f5) (q6 : P.f6 = Q.f6) (q8 : P.f8 = Q.f8) (h9 : Q.f9.length ≤ 1000) :
    Calls Tryd.prog 10 #[.agg cs.toArray, .agg ds.toArray] w (ChangedTo P Q w) := by
  have HKP := Aside0.mk hP
  have HKQ := Aside0.mk hQ
  have HG := Aside0.mk hG
  have Q6 := Aside0.mk q6
  have Q8 := Aside0.mk q8
  have VP := Aside0.mk hvP
  have VQ := Aside0.mk hvQ
  have SP := Aside0.mk hsP
  have SQ := Aside0.mk hsQ
  have e2 : ((P.f2.length : Int) == (Q.f2.length : Int)) = true := by rw [beq_iff_eq]; omega
  have e3 : ((P.f3.length : Int) == (Q.f3.length : Int)) = true := by rw [beq_iff_eq, q3]
  have e4 : ((P.f4.length : Int) == (Q.f4.length : Int)) = true := by rw [beq_iff_eq, q4]
  have e1 : (P.f1 != Q.f1) = false := by rw [bne_eq_false_iff_eq]; exact q1
  have e5 : (P.f5 != Q.f5) = false := by rw [bne_eq_false_iff_eq]; exact q5
  have E2 := Aside0.mk e2
  have E3 := Aside0.mk e3
  have E4 := Aside0.mk e4
  have E1 := Aside0.mk e1
  have E5 := Aside0.mk e5
  obtain ⟨B2, d2, B3, d3, B4, d4, B6, d6, B7, d7, B8, d8, B9, d9, rfl, _, ga2, _, ga3, _, ga4, _, ga6, _, ga7, _, ga8, _, ga9⟩ := k27_open hP
  obtain ⟨U2, u2, U3, u3, U4, u4, U6, u6, U7, u7, U8, u8, U9, u9, rfl, _, gb2, _, gb3, _, gb4, _, gb6, _, gb7, _, gb8, _, gb9⟩ := k27_open hQ
  have GA6 := Aside0.mk ga6
  have GB6 := Aside0.mk gb6
  have GA7 := Aside0.mk ga7
  have GB7 := Aside0.mk gb7
  have GA8 := Aside0.mk ga8
  have GB8 := Aside0.mk gb8
  have GA9 := Aside0.mk ga9
  have GB9 := Aside0.mk gb9
  clear hP hQ hG q1 q2 q3 q4 q5 q6 q8 hvP hvQ hsP hsQ e1 e2 e3 e4 e5 ga2 gb2 ga3 gb3 ga4 gb4 ga6 gb6 ga7 gb7 ga8 gb8 ga9 gb9
  go_enter Tryd.func10, Tryd.ntmps10
  go_upto_region 1 with (fail)
  obtain ⟨g, hg⟩ : ∃ g, g = w.heap.size := ⟨_, rfl⟩
  obtain ⟨g2, hg2⟩ : ∃ g2, g2 = w.heap.size + 1 := ⟨_, rfl⟩
  obtain ⟨g3, hg3⟩ : ∃ g3, g3 = w.heap.size + 1 + 1 := ⟨_, rfl⟩
  obtain ⟨w1, hw1⟩ : ∃ w1, w1 = ((w.alloc (.cells #[.string P.f0, .int .i64 P.f1, .slice B2 P.f2.length d2, .slice B3 P.f3.length d3, .slice B4 P.f4.length d4, .int .i64 P.f5, .slice B6 P.f6.length d6, .slice B7 P.f7.length d7, .slice B8 P.f8.length d8, .slice B9 P.f9.length d9] 27)).alloc (.cells #[.string Q.f0, .int .i64 Q.f1, .slice U2 Q.f2.length u2, .slice U3 Q.f3.length u3, .slice U4 Q.f4.length u4, .int .i64 Q.f5, .slice U6 Q.f6.length u6, .slice U7 Q.f7.length u7, .slice U8 Q.f8.length u8, .slice U9 Q.f9.length u9] 27)).alloc (.cells #[.bool false, .bool false, .slice none 0 0] 42) := ⟨_, rfl⟩
  have s1 : (w.alloc (.cells #[.string P.f0, .int .i64 P.f1, .slice B2 P.f2.length d2, .slice B3 P.f3.length d3, .slice B4 P.f4.length d4, .int .i64 P.f5, .slice B6 P.f6.length d6, .slice B7 P.f7.length d7, .slice B8 P.f8.length d8, .slice B9 P.f9.length d9] 27)).heap.size = g2 := by rw [hg2]; simp
  have s2 : ((w.alloc (.cells #[.string P.f0, .int .i64 P.f1, .slice B2 P.f2.length d2, .slice B3 P.f3.length d3, .slice B4 P.f4.length d4, .int .i64 P.f5, .slice B6 P.f6.length d6, .slice B7 P.f7.length d7, .slice B8 P.f8.length d8, .slice B9 P.f9.length d9] 27)).alloc (.cells #[.string Q.f0, .int .i64 Q.f1, .slice U2 Q.f2.length u2, .slice U3 Q.f3.length u3, .slice U4 Q.f4.length u4, .int .i64 Q.f5, .slice U6 Q.f6.length u6, .slice U7 Q.f7.length u7, .slice U8 Q.f8.length u8, .slice U9 Q.f9.length u9] 27)).heap.size = g3 := by rw [hg3]; simp
  rw [← hw1]
  have BP : Aside0 (w1.heap[g]? = some (.cells #[.string P.f0, .int .i64 P.f1, .slice B2 P.f2.length d2, .slice B3 P.f3.length d3, .slice B4 P.f4.length d4, .int .i64 P.f5, .slice B6 P.f6.length d6, .slice B7 P.f7.length d7, .slice B8 P.f8.length d8, .slice B9 P.f9.length d9] 27 (0, 0))) := ⟨by rw [hw1, hg]; exact blk_alloc (blk_alloc (heap_alloc_new w _) _) _⟩
  have BQ : Aside0 (w1.heap[g2]? = some (.cells #[.string Q.f0, .int .i64 Q.f1, .slice U2 Q.f2.length u2, .slice U3 Q.f3.length u3, .slice U4 Q.f4.length u4, .int .i64 Q.f5, .slice U6 Q.f6.length u6, .slice U7 Q.f7.length u7, .slice U8 Q.f8.length u8, .slice U9 Q.f9.length u9] 27 (0, 0))) := ⟨by rw [hw1, ← s1]; exact blk_alloc (heap_alloc_new _ _) _⟩
  have BR : Aside0 (w1.heap[g3]? = some (.cells #[.bool false, .bool false, .slice none 0 0] 42 (0, 0))) := ⟨by rw [hw1, ← s2]; exact heap_alloc_new _ _⟩
  have HB : Aside0 (Below w.heap.size w w1) := ⟨by rw [hw1]; exact (((Below.refl _ _).alloc (Nat.le_refl _) _).alloc (by simp) _).alloc (by rw [s2]; omega) _⟩
  simp only [← hg3]
  simp only [← hg2]
  simp only [← hg]
  have n1 : w.heap.size ≤ g3 := by omega
  clear hw1 s1 s2 hg hg2 hg3
  have n_BP := Aside0.mk (blk_drew BP.out)
  have n_BQ := Aside0.mk (blk_drew BQ.out)
  have n_BR := Aside0.mk (blk_drew BR.out)
  have n_HB := Aside0.mk (below_drew1 HB.out)
  clear BP BQ BR HB
  have BP := n_BP
  have BQ := n_BQ
  have BR := n_BR
  have HB := n_HB
  clear n_BP n_BQ n_BR n_HB
  refine start_ (n := 7) (S := fun w' => w'.heap[g]? = some (.cells #[.string P.f0, .int .i64 P.f1, .slice B2 P.f2.length d2, .slice B3 P.f3.length d3, .slice B4 P.f4.length d4, .int .i64 P.f5, .slice B6 P.f6.length d6, .slice B7 P.f7.length d7, .slice B8 P.f8.length d8, .slice B9 P.f9.length d9] 27 (0, 0)) ∧ w'.heap[g2]? = some (.cells #[.string Q.f0, .int .i64 Q.f1, .slice U2 Q.f2.length u2, .slice U3 Q.f3.length u3, .slice U4 Q.f4.length u4, .int .i64 Q.f5, .slice U6 Q.f6.length u6, .slice U7 Q.f7.length u7, .slice U8 Q.f8.length u8, .slice U9 Q.f9.length u9] 27 (0, 0))) (ds := []) #[false, false, false, false, false, false, false] (by kernel_rfl) rfl rfl ⟨BP.out, BQ.out⟩ (fun hHeld => ?_)
  refine with_tabW changed.tab1 changed.bits1 (fun HT_ HW_ => ?_)
  refine take_ (i := 0) (N := some 12) (v := ?_) (a' := ?_) #[true, false, false, false, false, false, false] rfl rfl (take_ofW HT_.out HW_.out (by kernel_rfl)) (fun _ _ _ h => h) (Or.inl ⟨by rfl, ?_⟩) hHeld ?_ ?_
  rotate_left
  · rintro w' ⟨s0, s1⟩
    refine load_run 27 (.tmp 2) ?ho ⟨g, 0, none⟩ ?hx [.string P.f0, .int .i64 P.f1, .slice B2 P.f2.length d2, .slice B3 P.f3.length d3, .slice B4 P.f4.length d4, .int .i64 P.f5, .slice B6 P.f6.length d6, .slice B7 P.f7.length d7, .slice B8 P.f8.length d8, .slice B9 P.f9.length d9] (fun w => Tryd.sizeOf27 w) Tryd.isAgg27 (blk_lst s0)
    case ho => rfl
    case hx => go_simp
  rotate_left
  · simp only [Act.put, List.setIfInBounds_toArray, List.set_cons_zero, List.set_cons_succ, i64_w, i32_w]
    rfl
  refine take_ (i := 2) (N := some 14) (v := ?_) (a' := ?_) #[true, false, true, false, false, false, false] rfl rfl (take_ofW HT_.out HW_.out (by kernel_rfl)) (fun _ _ _ h => h) (Or.inl ⟨by rfl, ?_⟩) hHeld ?_ ?_
  rotate_left
  · rintro w' ⟨s0, s1⟩
    refine load_run 27 (.tmp 3) ?ho ⟨g2, 0, none⟩ ?hx [.string Q.f0, .int .i64 Q.f1, .slice U2 Q.f2.length u2, .slice U3 Q.f3.length u3, .slice U4 Q.f4.length u4, .int .i64 Q.f5, .slice U6 Q.f6.length u6, .slice U7 Q.f7.length u7, .slice U8 Q.f8.length u8, .slice U9 Q.f9.length u9] (fun w => Tryd.sizeOf27 w) Tryd.isAgg27 (blk_lst s1)
    case ho => rfl
    case hx => go_simp
  rotate_left
  · simp only [Act.put, List.setIfInBounds_toArray, List.set_cons_zero, List.set_cons_succ, i64_w, i32_w]
    rfl
  refine one_ (i := 1) (N := some 13) #[true, true, true, false, false, false, false] rfl rfl (one_of HT_.out (by kernel_rfl)) (by decide) (fun K hK => ?_)
  refine goes_ Tryd.func14 (by kernel_rfl) rfl #[.agg #[.string P.f0, .int .i64 P.f1, .slice B2 P.f2.length d2, .slice B3 P.f3.length d3, .slice B4 P.f4.length d4, .int .i64 P.f5, .slice B6 P.f6.length d6, .slice B7 P.f7.length d7, .slice B8 P.f8.length d8, .slice B9 P.f9.length d9]] (by rfl) rfl rfl (by first | rfl | (simp only [List.map_toArray, List.map_cons, List.map_nil]; rfl)) ?_
  refine (valid_zero P _ _ (Glob_below HG.out HB.out) (k27.K_below HB.out HKP.out) SP.out VP.out).mono ?_
  rintro e wa ⟨rfl, hV⟩
  refine ⟨_, rfl, ?_⟩
  have n_BP := Aside0.mk (blk_below BP.out hV)
  have n_BQ := Aside0.mk (blk_below BQ.out hV)
  have n_BR := Aside0.mk (blk_below BR.out hV)
  have n_HB := Aside0.mk (HB.out.trans (Below.mono hV HB.out.size))
  clear BP BQ BR HB
  have BP := n_BP
  have BQ := n_BQ
  have BR := n_BR
  have HB := n_HB
  clear n_BP n_BQ n_BR n_HB
  clear hV
  refine hK.out _ _ ⟨BP.out, BQ.out⟩ (fun hHeld => ?_)
  clear hK K
  refine norm_ (a' := ?_) ?_ ?_
  rotate_left
  · show Act.put _ (some 13) _ = _
    simp only [Act.put, List.setIfInBounds_toArray, List.set_cons_zero, List.set_cons_succ, i64_w, i32_w]
    rfl
  refine one_ (i := 3) (N := some 15) #[true, true, true, true, false, false, false] rfl rfl (one_of HT_.out (by kernel_rfl)) (by decide) (fun K hK => ?_)
  refine goes_ Tryd.func14 (by kernel_rfl) rfl #[.agg #[.string Q.f0, .int .i64 Q.f1, .slice U2 Q.f2.length u2, .slice U3 Q.f3.length u3, .slice U4 Q.f4.length u4, .int .i64 Q.f5, .slice U6 Q.f6.length u6, .slice U7 Q.f7.length u7, .slice U8 Q.f8.length u8, .slice U9 Q.f9.length u9]] (by rfl) rfl rfl (by first | rfl | (simp only [List.map_toArray, List.map_cons, List.map_nil]; rfl)) ?_
  refine (valid_zero Q _ _ (Glob_below HG.out HB.out) (k27.K_below HB.out HKQ.out) SQ.out VQ.out).mono ?_
  rintro e wb ⟨rfl, hV⟩
  refine ⟨_, rfl, ?_⟩
  have n_BP := Aside0.mk (blk_below BP.out hV)
  have n_BQ := Aside0.mk (blk_below BQ.out hV)
  have n_BR := Aside0.mk (blk_below BR.out hV)
  have n_HB := Aside0.mk (HB.out.trans (Below.mono hV HB.out.size))
  clear BP BQ BR HB
  have BP := n_BP
  have BQ := n_BQ
  have BR := n_BR
  have HB := n_HB
  clear n_BP n_BQ n_BR n_HB
  clear hV
  refine hK.out _ _ ⟨BP.out, BQ.out⟩ (fun hHeld => ?_)
  clear hK K
  refine norm_ (a' := ?_) ?_ ?_
  rotate_left
  · show Act.put _ (some 15) _ = _
    simp only [Act.put, List.setIfInBounds_toArray, List.set_cons_zero, List.set_cons_succ, i64_w, i32_w]
    rfl
  refine one_ (i := 4) (N := some 16) #[true, true, true, true, true, false, false] rfl rfl (one_of HT_.out (by kernel_rfl)) (by decide) (fun K hK => ?_)
  refine Kd.R_lit_step (Kd.int .i64) _ 36 ?hg (N := 16) ?hd (xs := ([0, 0] : List Int)) (inner := [.int .i64 0, .int .i64 0]) (ok := fun _ => True) (okp := fun _ => True) ?hr ?hp (fun _ hk => hk) trivial (Below.refl _ _) (Nat.le_refl _) (by simp) ?_; (case hd => rfl); (case hg => rfl); (case hr => first | (go_simp; done) | (go_simp; rfl)); (case hp => exact (Reps.one (show Kd.M (Kd.int .i64) _ _ _ 0 [.int .i64 0] from rfl) (Reps.one (show Kd.M (Kd.int .i64) _ _ _ 0 [.int .i64 0] from rfl) (Reps.none _ _))))
  intro vL wL ho hb hg_ hnew_
  clear hg_ hnew_
  obtain ⟨aL, cL, hv⟩ := Kd.R_slice ho
  replace hv : vL = .slice aL 2 cL := hv
  subst hv
  have HL := Aside0.mk (Kd.R_reads' ho)
  clear ho
  have n_BP := Aside0.mk (blk_below BP.out hb)
  have n_BQ := Aside0.mk (blk_below BQ.out hb)
  have n_BR := Aside0.mk (blk_below BR.out hb)
  have n_HB := Aside0.mk (HB.out.trans (Below.mono hb HB.out.size))
  clear BP BQ BR HB
  have BP := n_BP
  have BQ := n_BQ
  have BR := n_BR
  have HB := n_HB
  clear n_BP n_BQ n_BR n_HB
  clear hb
  refine hK.out _ _ ⟨BP.out, BQ.out⟩ (fun hHeld => ?_)
  clear hK K
  refine norm_ (a' := ?_) ?_ ?_
  rotate_left
  · show Act.put _ (some 16) _ = _
    simp only [Act.put, List.setIfInBounds_toArray, List.set_cons_zero, List.set_cons_succ, i64_w, i32_w]
    rfl
  refine one_ (i := 5) (N := some 17) #[true, true, true, true, true, true, false] rfl rfl (one_of HT_.out (by kernel_rfl)) (by decide) (fun K hK => ?_)
  refine goes_ Tryd.func22 (by kernel_rfl) rfl #[.slice aL 2 cL] (by rfl) rfl rfl (by first | rfl | (simp only [List.map_toArray, List.map_cons, List.map_nil]; rfl)) ?_
  refine (first_zero aL cL _ HL.out.2.2).mono ?_
  rintro e wd ⟨rfl, rfl⟩
  refine ⟨_, rfl, ?_⟩
  refine hK.out _ _ ⟨BP.out, BQ.out⟩ (fun hHeld => ?_)
  clear hK K
  refine norm_ (a' := ?_) ?_ ?_
  rotate_left
  · show Act.put _ (some 17) _ = _
    simp only [Act.put, List.setIfInBounds_toArray, List.set_cons_zero, List.set_cons_succ, i64_w, i32_w]
    rfl
  refine pure_ (i := 6) (N := some 6) (v := ?_) (a' := ?_) #[true, true, true, true, true, true, true] rfl rfl (any_of HT_.out (by kernel_rfl)) (fun _ _ _ h => h) (Or.inl ⟨by rfl, ?_⟩) ?_ ?_
  rotate_left
  · intro w'
    go_simp
    with_reducible rfl
  rotate_left
  · simp only [Act.put, List.setIfInBounds_toArray, List.set_cons_zero, List.set_cons_succ, i64_w, i32_w]
    rfl
  refine done_ (done_of HT_.out (by kernel_rfl)) ?_
  obtain ⟨w4, hw4⟩ : ∃ w4, w4 = wd := ⟨_, rfl⟩
  rw [← hw4] at BP BQ BR HB ⊢
  clear hw4
  have xBP2 : w4.cell? ⟨g, 2, none⟩ = some (.slice B2 P.f2.length d2) := (blk_cell BP.out 2).trans rfl
  have xBP3 : w4.cell? ⟨g, 3, none⟩ = some (.slice B3 P.f3.length d3) := (blk_cell BP.out 3).trans rfl
  have xBP4 : w4.cell? ⟨g, 4, none⟩ = some (.slice B4 P.f4.length d4) := (blk_cell BP.out 4).trans rfl
  have xBQ2 : w4.cell? ⟨g2, 2, none⟩ = some (.slice U2 Q.f2.length u2) := (blk_cell BQ.out 2).trans rfl
  have xBQ3 : w4.cell? ⟨g2, 3, none⟩ = some (.slice U3 Q.f3.length u3) := (blk_cell BQ.out 3).trans rfl
  have xBQ4 : w4.cell? ⟨g2, 4, none⟩ = some (.slice U4 Q.f4.length u4) := (blk_cell BQ.out 4).trans rfl
  have e2 := E2.out
  have e3 := E3.out
  have e4 := E4.out
  go_upto_region 5 with (fail)
  clear e2 e3 e4 xBP2 xBQ2 xBP3 xBQ3 xBP4 xBQ4
  go_cut [8] (fun v8 wc => ∃ b7 : Bool, v8 = .bool b7 ∧ Aside0 ((P.f7 = Q.f7 → b7 = true) ∧ (P.f7.length ≠ Q.f7.length → b7 = false)) ∧ Aside0 (Below w4.heap.size w4 wc))
  case first =>
    have HF := Aside0.mk (Below.refl w4.heap.size w4)
    have xBP6 : w4.cell? ⟨g, 6, none⟩ = some (.slice B6 P.f6.length d6) := (blk_cell BP.out 6).trans rfl
    have xBQ6 : w4.cell? ⟨g2, 6, none⟩ = some (.slice U6 Q.f6.length u6) := (blk_cell BQ.out 6).trans rfl
    go_wp2_with fail
    refine (eqL_any B6 d6 P.f6 U6 u6 Q.f6 _ (Kd.C_below GA6.out HB.out) (Kd.C_below GB6.out HB.out)).mono ?_
    rintro e wa ⟨b, rfl, hbt, _, hV⟩
    have n_HF := Aside0.mk (HF.out.trans (Below.mono hV HF.out.size))
    clear HF
    have HF := n_HF
    clear n_HF xBP6 xBQ6
    have n_BP := Aside0.mk (blk_below BP.out hV)
    have n_BQ := Aside0.mk (blk_below BQ.out hV)
    have n_BR := Aside0.mk (blk_below BR.out hV)
    have n_HB := Aside0.mk (HB.out.trans (Below.mono hV HB.out.size))
    clear BP BQ BR HB
    have BP := n_BP
    have BQ := n_BQ
    have BR := n_BR
    have HB := n_HB
    clear n_BP n_BQ n_BR n_HB
    obtain rfl := hbt Q6.out
    clear hV hbt
    have xBP7 : wa.cell? ⟨g, 7, none⟩ = some (.slice B7 P.f7.length d7) := (blk_cell BP.out 7).trans rfl
    have xBQ7 : wa.cell? ⟨g2, 7, none⟩ = some (.slice U7 Q.f7.length u7) := (blk_cell BQ.out 7).trans rfl
    go_wp2_with fail
    refine (eqI_any B7 d7 P.f7 U7 u7 Q.f7 _ (Kd.C_below GA7.out HB.out) (Kd.C_below GB7.out HB.out)).mono ?_
    rintro e wb ⟨b7, rfl, h7t, h7f, hV⟩
    have n_HF := Aside0.mk (HF.out.trans (Below.mono hV HF.out.size))
    clear HF
    have HF := n_HF
    clear n_HF xBP7 xBQ7
    have n_BP := Aside0.mk (blk_below BP.out hV)
    have n_BQ := Aside0.mk (blk_below BQ.out hV)
    have n_BR := Aside0.mk (blk_below BR.out hV)
    have n_HB := Aside0.mk (HB.out.trans (Below.mono hV HB.out.size))
    clear BP BQ BR HB
    have BP := n_BP
    have BQ := n_BQ
    have BR := n_BR
    have HB := n_HB
    clear n_BP n_BQ n_BR n_HB
    have H7 := Aside0.mk (And.intro h7t h7f)
    clear hV h7t h7f
    cases b7
    · go_wp2_with fail
      go_meet
      exact ⟨false, rfl, ⟨⟨fun h => by simpa using H7.out.1 h, fun _ => rfl⟩⟩, HF⟩
    · skip
      have xBP8 : wb.cell? ⟨g, 8, none⟩ = some (.slice B8 P.f8.length d8) := (blk_cell BP.out 8).trans rfl
      have xBQ8 : wb.cell? ⟨g2, 8, none⟩ = some (.slice U8 Q.f8.length u8) := (blk_cell BQ.out 8).trans rfl
      go_wp2_with fail
      refine (eqI_any B8 d8 P.f8 U8 u8 Q.f8 _ (Kd.C_below GA8.out HB.out) (Kd.C_below GB8.out HB.out)).mono ?_
      rintro e wc ⟨b, rfl, hbt, _, hV⟩
      have n_HF := Aside0.mk (HF.out.trans (Below.mono hV HF.out.size))
      clear HF
      have HF := n_HF
      clear n_HF xBP8 xBQ8
      have n_BP := Aside0.mk (blk_below BP.out hV)
      have n_BQ := Aside0.mk (blk_below BQ.out hV)
      have n_BR := Aside0.mk (blk_below BR.out hV)
      have n_HB := Aside0.mk (HB.out.trans (Below.mono hV HB.out.size))
      clear BP BQ BR HB
      have BP := n_BP
      have BQ := n_BQ
      have BR := n_BR
      have HB := n_HB
      clear n_BP n_BQ n_BR n_HB
      obtain rfl := hbt Q8.out
      clear hV hbt
      go_wp2_with fail
      go_meet
      exact ⟨true, rfl, ⟨⟨fun _ => rfl, fun h => by simpa using H7.out.2 h⟩⟩, HF⟩
  case rest =>
  obtain ⟨b7, rfl, H7, HF⟩ := hcut
  have n_BP := Aside0.mk (blk_below BP.out HF.out)
  have n_BQ := Aside0.mk (blk_below BQ.out HF.out)
  have n_BR := Aside0.mk (blk_below BR.out HF.out)
  have n_HB := Aside0.mk (HB.out.trans (Below.mono HF.out HB.out.size))
  clear BP BQ BR HB
  have BP := n_BP
  have BQ := n_BQ
  have BR := n_BR
  have HB := n_HB
  clear n_BP n_BQ n_BR n_HB
  obtain ⟨w5, hw5⟩ : ∃ w5, w5 = wc := ⟨_, rfl⟩
  rw [← hw5] at BP BQ BR HB ⊢
  clear hw5 HF
  go_upto_region 6 with (fail)
  go_cut [9] (fun v9 wc => ∃ g9 : Nat, v9 = .pointer (some ⟨g9, 0, none⟩) ∧ Aside0 (wc.heap[g9]? = some (.cells #[.bool false, .bool (!b7), .slice none 0 0] 42 (0, 0))) ∧ Aside0 (w5.heap.size ≤ g9) ∧ Aside0 (Below w5.heap.size w5 wc))
  case first =>
    have xBP1 : w5.cell? ⟨g, 1, none⟩ = some (.int .i64 P.f1) := (blk_cell BP.out 1).trans rfl
    have xBP5 : w5.cell? ⟨g, 5, none⟩ = some (.int .i64 P.f5) := (blk_cell BP.out 5).trans rfl
    have xBQ1 : w5.cell? ⟨g2, 1, none⟩ = some (.int .i64 Q.f1) := (blk_cell BQ.out 1).trans rfl
    have xBQ5 : w5.cell? ⟨g2, 5, none⟩ = some (.int .i64 Q.f5) := (blk_cell BQ.out 5).trans rfl
    have e1 := E1.out
    have e5 := E5.out
    have hms : w.heap.size ≤ w5.heap.size := HB.out.size
    cases b7
    · go_wp2_with ((with_reducible refine gate_dst (N := 9) rfl ?_); refine new_event rfl rfl #[.bool false, .bool false, .slice none 0 0] #[.bool false, .bool true, .slice none 0 0] 42 (by first | (go_simp; done) | (go_simp; rfl)) rfl rfl (.tmp 9) (.tmp 86) rfl (by go_simp) (by first | (go_simp; done) | (go_simp; rfl)) (by kernel_rfl) rfl (by simp [Value.oneCell']) ?_; intro g9 hg9 w6 hb9 hV; refine Halt.go ?_)
      unfold Halt
      have H9 := Aside0.mk hb9
      have H9l : Aside0 (w5.heap.size ≤ g9) := ⟨by rw [hg9]; exact Nat.le_refl _⟩
      have HV := Aside0.mk hV
      have HG9 := Aside0.mk hg9
      clear hb9 hg9 hV
      go_wp2_with fail
      go_meet
      exact ⟨g9, by first | rfl | rw [HG9.out], H9, H9l, HV⟩
    · go_wp2_with ((with_reducible refine gate_dst (N := 9) rfl ?_); refine new_event rfl rfl #[.bool false, .bool false, .slice none 0 0] #[.bool false, .bool false, .slice none 0 0] 42 (by first | (go_simp; done) | (go_simp; rfl)) rfl rfl (.tmp 9) (.tmp 86) rfl (by go_simp) (by first | (go_simp; done) | (go_simp; rfl)) (by kernel_rfl) rfl (by simp [Value.oneCell']) ?_; intro g9 hg9 w6 hb9 hV; refine Halt.go ?_)
      unfold Halt
      have H9 := Aside0.mk hb9
      have H9l : Aside0 (w5.heap.size ≤ g9) := ⟨by rw [hg9]; exact Nat.le_refl _⟩
      have HV := Aside0.mk hV
      have HG9 := Aside0.mk hg9
      clear hb9 hg9 hV
      go_wp2_with fail
      go_meet
      exact ⟨g9, by first | rfl | rw [HG9.out], H9, H9l, HV⟩
  case rest =>
  obtain ⟨g9, rfl, BO, H9l, HV⟩ := hcut
  have gn1 : g < w5.heap.size := blk_lt BP.out
  have gn2 : g2 < w5.heap.size := blk_lt BQ.out
  have gn3 : g3 < w5.heap.size := blk_lt BR.out
  have ge9 := H9l.out
  have m1 : g ≠ g9 := by omega
  have m2 : g2 ≠ g9 := by omega
  have m3 : g3 ≠ g9 := by omega
  have n9 : w.heap.size ≤ g9 := Nat.le_trans HB.out.size ge9
  have n_BP := Aside0.mk (blk_below BP.out HV.out)
  have n_BQ := Aside0.mk (blk_below BQ.out HV.out)
  have n_BR := Aside0.mk (blk_below BR.out HV.out)
  have n_HB := Aside0.mk (HB.out.trans (Below.mono HV.out HB.out.size))
  clear BP BQ BR HB
  have BP := n_BP
  have BQ := n_BQ
  have BR := n_BR
  have HB := n_HB
  clear n_BP n_BQ n_BR n_HB
  obtain ⟨w6, hw6⟩ : ∃ w6, w6 = wc := ⟨_, rfl⟩
  rw [← hw6] at BP BQ BR BO HB ⊢
  clear hw6 HV H9l gn1 gn2 gn3 ge9
  have xQ9 : w6.cell? ⟨g2, 9, none⟩ = some (.slice U9 Q.f9.length u9) := (blk_cell BQ.out 9).trans rfl
  have HR0 : Aside0 (Kd.R (Kd.int .i64) 3 w6 w.heap.size (fun _ => True) (.slice none 0 0) []) := ⟨Kd.R_nil _ _ _ _ _⟩
  have HI0 : Aside0 (Idx P Q 0 []) := ⟨by unfold Idx; simp⟩
  go_wp2_with fail
  clear xQ9
  go_loopw [90] (fun v90 W => ∃ (i : Nat) (l : List Int) (A : Option Addr) (c : Nat), i ≤ Q.f9.length ∧ v90 = .int .i64 i ∧ Aside0 (W.heap[g9]? = some (.cells #[.bool false, .bool (!b7), .slice A l.length c] 42 (0, 0))) ∧ Aside0 (Kd.R (Kd.int .i64) 3 W w.heap.size (fun _ => True) (.slice A l.length c) l) ∧ Aside0 (Idx P Q i l) ∧ Aside0 (W.heap[g]? = some (.cells #[.string P.f0, .int .i64 P.f1, .slice B2 P.f2.length d2, .slice B3 P.f3.length d3, .slice B4 P.f4.length d4, .int .i64 P.f5, .slice B6 P.f6.length d6, .slice B7 P.f7.length d7, .slice B8 P.f8.length d8, .slice B9 P.f9.length d9] 27 (0, 0))) ∧ Aside0 (W.heap[g2]? = some (.cells #[.string Q.f0, .int .i64 Q.f1, .slice U2 Q.f2.length u2, .slice U3 Q.f3.length u3, .slice U4 Q.f4.length u4, .int .i64 Q.f5, .slice U6 Q.f6.length u6, .slice U7 Q.f7.length u7, .slice U8 Q.f8.length u8, .slice U9 Q.f9.length u9] 27 (0, 0))) ∧ Aside0 (W.heap[g3]? = some (.cells #[.bool false, .bool false, .slice none 0 0] 42 (0, 0))) ∧ Aside0 (Below w.heap.size w W)) (fun v90 _ => Q.f9.length - (intOf v90).toNat)
  case atStart => exact ⟨0, [], none, 0, Nat.zero_le _, rfl, BO, HR0, HI0, BP, BQ, BR, HB⟩
  case round =>
    obtain ⟨i, l, A, c, hi, rfl, BO, HR, HI, BP, BQ, BR, HB⟩ := hrel
    clear HR0 HI0
    by_cases hlt : i < Q.f9.length
    · obtain ⟨ad, rc, rfl, hK, hn, hc⟩ := at_rule (Kd.C_below GB9.out HB.out) i hlt
      have HKR := Aside0.mk hK
      obtain ⟨C6, q6, C7, q7, C8, q8, C9, q9, C12, q12, C14, q14, C15, q15, C16, q16, rfl, _⟩ := k30_open hK
      have HX := Aside0.mk hc
      clear hK hc hn
      obtain ⟨R, hR⟩ : ∃ R, R = Q.f9.getD i z30 := ⟨_, rfl⟩
      rw [← hR] at HKR HX
      have HRE := Aside0.mk hR
      clear hR
      have hil : (i : Int) < (Q.f9.length : Int) := by omega
      go_wp2_with (first | ((with_reducible refine gate_dst (N := 94) rfl ?_); refine Kd.event_run rfl (load_run 30 (.tmp 93) rfl (ad.add (i * 18)) (by go_simp) [.string R.f0, .int .i64 R.f1, .int .i64 R.f2, .int .i64 R.f3, .int .i64 R.f4, .int .i64 R.f5, .slice C6 R.f6.length q6, .slice C7 R.f7.length q7, .slice C8 R.f8.length q8, .slice C9 R.f9.length q9, .int .i64 R.f10, .int .i64 R.f11, .slice C12 R.f12.length q12, .int .i64 R.f13, .slice C14 R.f14.length q14, .slice C15 R.f15.length q15, .slice C16 R.f16.length q16, .int .i64 R.f17] (fun w => Tryd.sizeOf30 w) Tryd.isAgg30 HX.out) ?_) | ((with_reducible refine gate_dst (N := 11) rfl ?_); refine box_event rfl (N := 11) rfl (cs := #[.string (⟨#[]⟩ : ByteArray), .int .i64 0, .int .i64 0, .int .i64 0, .int .i64 0, .int .i64 0, .slice none 0 0, .slice none 0 0, .slice none 0 0, .slice none 0 0, .int .i64 0, .int .i64 0, .slice none 0 0, .int .i64 0, .slice none 0 0, .slice none 0 0, .slice none 0 0, .int .i64 0]) (t := 30) (by first | (go_simp; done) | (go_simp; rfl)) ?_; intro g11 hg11 w7 hb11 hV; have hwg : wr.heap.size ≤ g11 := Nat.le_of_eq hg11.symm; clear hg11; refine Halt.go ?_))
      unfold Halt
      have BX := Aside0.mk hb11
      have HV := Aside0.mk hV
      clear hb11 hV HX
      go_wp2_with (refine store_all 30 (.tmp 11) (.tmp 94) rfl rfl rfl g11 #[.string (⟨#[]⟩ : ByteArray), .int .i64 0, .int .i64 0, .int .i64 0, .int .i64 0, .int .i64 0, .slice none 0 0, .slice none 0 0, .slice none 0 0, .slice none 0 0, .int .i64 0, .int .i64 0, .slice none 0 0, .int .i64 0, .slice none 0 0, .slice none 0 0, .slice none 0 0, .int .i64 0] #[.string R.f0, .int .i64 R.f1, .int .i64 R.f2, .int .i64 R.f3, .int .i64 R.f4, .int .i64 R.f5, .slice C6 R.f6.length q6, .slice C7 R.f7.length q7, .slice C8 R.f8.length q8, .slice C9 R.f9.length q9, .int .i64 R.f10, .int .i64 R.f11, .slice C12 R.f12.length q12, .int .i64 R.f13, .slice C14 R.f14.length q14, .slice C15 R.f15.length q15, .slice C16 R.f16.length q16, .int .i64 R.f17] (by go_simp) (by go_simp) BX.out (by kernel_rfl) rfl (by simp [Value.oneCell']) ?_; intro w8 hb8 hm8 hB8; refine Halt.go ?_)
      unfold Halt
      have HW8 := Aside0.mk (hB8 _ _ HV.out hwg)
      have BX8 := Aside0.mk hb8
      clear BX hb8 hm8 hB8 HV
      have n_BP := Aside0.mk (blk_below BP.out HW8.out)
      have n_BQ := Aside0.mk (blk_below BQ.out HW8.out)
      have n_BR := Aside0.mk (blk_below BR.out HW8.out)
      have n_BO := Aside0.mk (blk_below BO.out HW8.out)
      have n_HR := Aside0.mk (Kd.R_below HR.out HW8.out)
      have n_HB := Aside0.mk (HB.out.trans (Below.mono HW8.out HB.out.size))
      have n_KR := Aside0.mk (k30.K_below HW8.out HKR.out)
      clear BP BQ BR BO HR HB HKR
      have BP := n_BP
      have BQ := n_BQ
      have BR := n_BR
      have BO := n_BO
      have HR := n_HR
      have HB := n_HB
      have HKR := n_KR
      clear n_BP n_BQ n_BR n_BO n_HR n_HB n_KR
      have xP9 : w8.cell? ⟨g, 9, none⟩ = some (.slice B9 P.f9.length d9) := (blk_cell BP.out 9).trans rfl
      clear HW8
      go_wp2_with fail
      clear xP9
      refine (contains_any 24 #[.pointer (some ⟨g11, 0, none⟩)] (fun x b => x = R → b = true) B9 d9 P.f9 w8 (Kd.C_below GA9.out HB.out) (changed1_says R _ w8 g11 BX8.out HKR.out) (fun args w => enters_ Tryd.func24 (by kernel_rfl) rfl args w)).mono ?_
      rintro e w9 ⟨b, rfl, hb, hV⟩
      have n_BP := Aside0.mk (blk_below BP.out hV)
      have n_BQ := Aside0.mk (blk_below BQ.out hV)
      have n_BR := Aside0.mk (blk_below BR.out hV)
      have n_BO := Aside0.mk (blk_below BO.out hV)
      have n_HR := Aside0.mk (Kd.R_below HR.out hV)
      have n_HB := Aside0.mk (HB.out.trans (Below.mono hV HB.out.size))
      have n_KR := Aside0.mk (k30.K_below hV HKR.out)
      clear BP BQ BR BO HR HB HKR
      have BP := n_BP
      have BQ := n_BQ
      have BR := n_BR
      have BO := n_BO
      have HR := n_HR
      have HB := n_HB
      have HKR := n_KR
      clear n_BP n_BQ n_BR n_BO n_HR n_HB n_KR
      clear hV BX8
      rcases hb with ⟨rfl, hp⟩ | ⟨rfl, _⟩
      rotate_left
      · go_wp2_with fail
        go_roundw
        case rel => exact ⟨i + 1, l, A, c, by omega, by go_num, BO, HR, ⟨Idx_step HI.out⟩, BP, BQ, BR, HB⟩
        case measure => simp [intOf]; omega
      have HIn := Aside0.mk (Idx_snoc HI.out (by rw [← HRE.out]; exact not_mem_of hp))
      have hll := HI.out.1
      clear hp HI
      have xO2 : w9.cell? ⟨g9, 2, none⟩ = some (.slice A l.length c) := (blk_cell BO.out 2).trans rfl
      go_wp2_with ((with_reducible refine gate_builtin (b := .append) (xs := #[.tmp 101, .tmp 103]) rfl ?_); at_builtin; refine Kd.R_append (Kd.int .i64) (w0 := w) w.heap.size rfl (.tmp 101) (.tmp 103) 24 3 (.int .i64 0) 8 rfl Tryd.underlying24 (by kernel_rfl) rfl (by decide) (by decide) _ l (i : Int) [.int .i64 (i : Int)] (fun _ => True) (fun _ => False) rfl rfl rfl (fun _ h => h.elim) (fun _ _ => trivial) HR.out HB.out HB.out.size (by omega) ?_; intro v1 wv hR hB hg_ hat_; refine Halt.go ?_)
      unfold Halt
      have n_BP := Aside0.mk (blk_grown BP.out hg_ (Kd.R_ne HR.out BP.out (by decide)))
      have n_BQ := Aside0.mk (blk_grown BQ.out hg_ (Kd.R_ne HR.out BQ.out (by decide)))
      have n_BR := Aside0.mk (blk_grown BR.out hg_ (Kd.R_ne HR.out BR.out (by decide)))
      have n_BO := Aside0.mk (blk_grown BO.out hg_ (Kd.R_ne HR.out BO.out (by decide)))
      have n_HB := Aside0.mk hB
      obtain ⟨n9l, hn9⟩ : ∃ n, n = (l ++ [(i : Int)]).length := ⟨_, rfl⟩
      obtain ⟨Ar, cr, hv⟩ := Kd.R_slice hR
      rw [← hn9] at hv
      subst hv
      have n_HR := Aside0.mk hR
      have HN9 := Aside0.mk hn9
      clear BP BQ BR BO HR HB hR hB hg_ hat_ xO2 hn9
      have BP := n_BP
      have BQ := n_BQ
      have BR := n_BR
      have BO := n_BO
      have HR := n_HR
      have HB := n_HB
      clear n_BP n_BQ n_BR n_BO n_HR n_HB
      have xO2 : wv.cell? ⟨g9, 2, none⟩ = some (.slice A l.length c) := (blk_cell BO.out 2).trans rfl
      have fO2 := blk_frozen BO.out 2
      go_wp2_with fail
      go_roundw
      case rel => exact ⟨i + 1, l ++ [(i : Int)], Ar, cr, by omega, by go_num, ⟨by rw [← HN9.out]; exact blk_put BO.out 2 _ rfl⟩, ⟨by rw [← HN9.out]; exact Kd.R_set HR.out BO.out (by decide) 2 _⟩, HIn, ⟨blk_far BP.out m1 _⟩, ⟨blk_far BQ.out m2 _⟩, ⟨blk_far BR.out m3 _⟩, ⟨HB.out.setCell n9 _⟩⟩
      case measure => simp [intOf]; omega
    · have hi2 : i = Q.f9.length := by omega
      subst hi2
      have xO1 : wr.cell? ⟨g9, 1, none⟩ = some (.bool (!b7)) := (blk_cell BO.out 1).trans rfl
      have xP9 : wr.cell? ⟨g, 9, none⟩ = some (.slice B9 P.f9.length d9) := (blk_cell BP.out 9).trans rfl
      have xQ9 : wr.cell? ⟨g2, 9, none⟩ = some (.slice U9 Q.f9.length u9) := (blk_cell BQ.out 9).trans rfl
      cases b7
      · have H7f := H7.out
        have xO0 : wr.cell? ⟨g9, 0, none⟩ = some (.bool false) := (blk_cell BO.out 0).trans rfl
        have fO0 := blk_frozen BO.out 0
        have hq : ∃ q : Bool, (P.f9 = Q.f9 → q = true) ∧ (P.f9.length ≠ Q.f9.length → q = false) := by
          by_cases hl : P.f9.length = Q.f9.length
          · exact ⟨true, fun _ => rfl, fun h => absurd hl h⟩
          · exact ⟨false, fun h => absurd (by rw [h]) hl, fun _ => rfl⟩
        obtain ⟨q, hq1, hq2⟩ := hq
        have HQ := Aside0.mk (And.intro hq1 hq2)
        clear hq1 hq2
        go_wp2_with ((with_reducible refine gate_dst (N := 118) rfl ?_); refine copy_event rfl rfl 42 (.tmp 9) (.tmp 4) rfl rfl rfl rfl g9 g3 42 #[.bool false, .bool false, .slice none 0 0] #[.bool false, .bool true, .slice A l.length c] (by go_simp) (by go_simp) (by go_simp) (blk_put BO.out 0 _ rfl) (blk_far BR.out m3 _) (fun w => Tryd.sizeOf42 w) Tryd.isAgg42 (by kernel_rfl) rfl (by simp [Value.oneCell']) ?_; intro wz hbz hmz hBz; refine Halt.go ?_)
        unfold Halt
        have hBn := hBz _ _ (HB.out.setCell n9 (.bool false)) n1
        have hRz := Kd.R_reads' (R_copy (Kd.R_set HR.out BO.out (by decide) 0 (.bool false)) (blk_far BR.out m3 _) (by decide) hmz)
        go_wp2_with fail
        refine bodyPost_ret (results_ct rfl _ _ g3 42 #[.bool false, .bool true, .slice A l.length c] (0, 0) _ rfl hbz Tryd.underlying42 rfl (by kernel_rfl)) rfl ?_
        exact ⟨true, q, l, A, c, rfl, hRz.2.2, HI.out, (fun h => by have := H7f.1 h; cases this), (fun _ => rfl), HQ.out.1, HQ.out.2, hBn⟩
      · go_wp2_with fail
        refine (equalFunc_weak 25 B9 d9 P.f9 U9 u9 Q.f9 wr (Kd.C_below GA9.out HB.out) (Kd.C_below GB9.out HB.out) same_says (fun args w => enters_ Tryd.func25 (by kernel_rfl) rfl args w)).mono ?_
        rintro e w9 ⟨q, rfl, hq1, hq2, hV⟩
        have HQ := Aside0.mk (And.intro hq1 hq2)
        have H7t := H7.out
        have n_BP := Aside0.mk (blk_below BP.out hV)
        have n_BQ := Aside0.mk (blk_below BQ.out hV)
        have n_BR := Aside0.mk (blk_below BR.out hV)
        have n_BO := Aside0.mk (blk_below BO.out hV)
        have n_HR := Aside0.mk (Kd.R_below HR.out hV)
        have n_HB := Aside0.mk (HB.out.trans (Below.mono hV HB.out.size))
        clear BP BQ BR BO HR HB hq1 hq2 xO1 xP9 xQ9 hV
        have BP := n_BP
        have BQ := n_BQ
        have BR := n_BR
        have BO := n_BO
        have HR := n_HR
        have HB := n_HB
        clear n_BP n_BQ n_BR n_BO n_HR n_HB
        have xO0 : w9.cell? ⟨g9, 0, none⟩ = some (.bool false) := (blk_cell BO.out 0).trans rfl
        have fO0 := blk_frozen BO.out 0
        go_wp2_with ((with_reducible refine gate_dst (N := 118) rfl ?_); refine copy_event rfl rfl 42 (.tmp 9) (.tmp 4) rfl rfl rfl rfl g9 g3 42 #[.bool false, .bool false, .slice none 0 0] #[.bool q, .bool false, .slice A l.length c] (by go_simp) (by go_simp) (by go_simp) (blk_put BO.out 0 _ rfl) (blk_far BR.out m3 _) (fun w => Tryd.sizeOf42 w) Tryd.isAgg42 (by kernel_rfl) rfl (by simp [Value.oneCell']) ?_; intro wz hbz hmz hBz; refine Halt.go ?_)
        unfold Halt
        have hBn := hBz _ _ (HB.out.setCell n9 (.bool q)) n1
        have hRz := Kd.R_reads' (R_copy (Kd.R_set HR.out BO.out (by decide) 0 (.bool q)) (blk_far BR.out m3 _) (by decide) hmz)
        go_wp2_with fail
        refine bodyPost_ret (results_ct rfl _ _ g3 42 #[.bool q, .bool false, .slice A l.length c] (0, 0) _ rfl hbz Tryd.underlying42 rfl (by kernel_rfl)) rfl ?_
        exact ⟨false, q, l, A, c, rfl, hRz.2.2, HI.out, (fun _ => rfl), (fun h => by have := H7t.2 h; cases this), HQ.out.1, HQ.out.2, hBn⟩
end Go.Proofs.YtoggkfapdomhgaaDoor.Pr
