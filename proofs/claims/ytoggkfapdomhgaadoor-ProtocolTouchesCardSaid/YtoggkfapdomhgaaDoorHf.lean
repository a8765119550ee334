/- Contract of guards; conditions: each theorem's own premises. -/
import Derived.Test.YtoggkfapdomhgaaDoorHe
import Derived.Deep.RegionWith
namespace Go.Proofs.YtoggkfapdomhgaaDoor.Pr
open Go.RowKit Go.Proofs.YtoggkfapdomhgaaDoorW.PrintWords Go.Proofs.YtoggkfapdomhgaaDoorW.PrintLast Go.Proofs.YtoggkfapdomhgaaDoorW.PrintMore
set_option linter.unusedVariables false
set_option linter.unusedSimpArgs false
set_option maxRecDepth 100000
def guardE (n : Int) (g : S93) : Int := firstE [idxE g.f0 n, whenE (decide (g.f1 < 1) || decide (100 < g.f1)) 1, whenE (!bndE g.f2) 4]
def grdsE (n : Int) (l : List S93) : Int := scan (fun i => guardE n (l.getD i z93)) l.length 0
def guardsE (n : Int) (l : List S93) : Int := if grdsE n l = 0 then whenE (decide ((2 : Int) < l.length)) 4 else grdsE n l
theorem C_ints (w : World) (e : TypeId) (l : List Int) (hl : l.length ≤ 9223372036854775807) : Kd.C (Kd.int .i64) (w.alloc (.cells (l.map (Value.int .i64)).toArray e)) (some ⟨w.heap.size, 0, none⟩) l.length l := by
  refine ⟨rfl, hl, fun _ => ⟨_, rfl, fun j p hj => ⟨[.int .i64 p], rfl, rfl, fun i u hu => ?_⟩⟩⟩
  match i, hu with
  | 0, hu =>
    obtain rfl := Option.some.inj hu
    have h1 : (Kd.int .i64).sz = 1 := rfl
    rw [h1, Nat.mul_one, Nat.add_zero, Addr.add_lit, Nat.zero_add]
    refine (blk_cell (g := w.heap.size) (cs := (l.map (Value.int .i64)).toArray) (t := e) (heap_alloc_new _ _) j).trans ?_
    simp [hj]
theorem bnd_b (L : S48) (w : World) : Calls Tryd.prog 26 #[.agg #[.int .i64 L.f0, .int .i64 L.f1, .int .i64 L.f2, .int .i64 L.f3]] w fun e w' => e = .returned (.bool (bndE L)) ∧ Below w.heap.size w w' :=
  (bnd_any L w).mono fun e w' h => ⟨h.1, by rw [h.2]; exact (Below.refl _ _).alloc (Nat.le_refl _) _⟩
def guards.T4 : Bool × List (List Nat × List Nat) := (true, [([], []), ([0], [0]), ([], []), ([2], [2]), ([3], [3]), ([1, 4], [1, 4]), ([], []), ([6], [6]), ([7], [7]), ([8, 5], [8]), ([9], [9]), ([10, 9], [9, 10]), ([11, 9], [9, 11]), ([9, 12], [9, 12]), ([13, 9], [13]), ([], []), ([15], [15]), ([16, 14], [16]), ([17], [17]), ([18, 17], [18]), ([5, 14, 19], [5, 14, 19]), ([20, 19], [20]), ([21, 21, 0, 1, 2, 3, 4, 5, 6, 7, 8, 9, 10, 11, 12, 13, 14, 15, 16, 17, 18, 19, 20, 21], [21])])
def guards.B4 : List Nat := [0, 1, 0, 4, 12, 31, 0, 64, 192, 511, 1023, 2047, 4095, 8191, 16383, 0, 32768, 131071, 262143, 524287, 1048575, 2097151, 4194303]
theorem guards.tab4 : rtab .any (opsOf Tryd.f58 4) = guards.T4 := by kernel_rfl
theorem guards.bits4 : waitsOk guards.T4.2 guards.B4 = true := by kernel_rfl
set_option maxHeartbeats 4000000 in
theorem guards_any (P : S27) (cs : List Value) (A : Option Addr) (c : Nat) (l : List S93) (w : World) (hP : k27.K w P cs) (hC : Kd.C k93 w A l.length l) :
    Calls Tryd.prog 58 #[.agg cs.toArray, .slice A l.length c] w fun e w' => e = .returned (.int .i64 (guardsE P.f3.length l)) ∧ Below w.heap.size w w' := by
  obtain ⟨A2, c2, A3, c3, A4, c4, A6, c6, A7, c7, A8, c8, A9, c9, rfl, _⟩ := k27_open hP
  have HC := Aside0.mk hC
  have hmax := hC.2.1
  clear hC hP
  go_enter Tryd.func58, Tryd.ntmps58
  go_wp2_with fail
  obtain ⟨w1, hw1⟩ : ∃ w1, w1 = w.alloc (.cells #[.string P.f0, .int .i64 P.f1, .slice A2 P.f2.length c2, .slice A3 P.f3.length c3, .slice A4 P.f4.length c4, .int .i64 P.f5, .slice A6 P.f6.length c6, .slice A7 P.f7.length c7, .slice A8 P.f8.length c8, .slice A9 P.f9.length c9] 27) := ⟨_, rfl⟩
  rw [← hw1]
  have HB1 : Aside0 (Below w.heap.size w w1) := ⟨by rw [hw1]; exact (Below.refl _ _).alloc (Nat.le_refl _) _⟩
  have hx1 : w1.cell? ⟨w.heap.size, 3, none⟩ = some (.slice A3 P.f3.length c3) := by rw [hw1]; go_simp
  have hs1 : w.heap.size < w1.heap.size := by rw [hw1]; simp
  clear hw1
  generalize (P.f3.length : Int) = n3
  go_loopw [10] (fun v10 W => ∃ i : Nat, i ≤ l.length ∧ v10 = .int .i64 i ∧ Aside0 (scan (fun i => guardE P.f3.length (l.getD i z93)) (l.length - i) i = grdsE P.f3.length l) ∧ Aside0 (Below w1.heap.size w1 W)) (fun v10 _ => l.length - (intOf v10).toNat)
  case atStart => exact ⟨0, Nat.zero_le _, rfl, ⟨rfl⟩, ⟨Below.refl _ _⟩⟩
  case round =>
    obtain ⟨i, hi, rfl, HE, HB⟩ := hrel
    by_cases hlt : i < l.length
    · have HCr := Aside0.mk (Kd.C_below (Kd.C_below HC.out HB1.out) HB.out)
      obtain ⟨ad, rfl, x0, x1, x2, x3, x4, x5⟩ := at_T93 HCr.out (i : Int) (by omega) (by omega)
      simp only [rd_T93, Int.toNat_natCast] at x0 x1 x2 x3 x4 x5
      obtain ⟨b, hb⟩ : ∃ b, l.length - i = b + 1 := ⟨l.length - i - 1, by omega⟩
      have HE2 := HE.out
      rw [hb] at HE2
      obtain ⟨hz, hn⟩ := scan_step HE2
      have hxr : wr.cell? ⟨w.heap.size, 3, none⟩ = some (.slice A3 P.f3.length c3) := (HB.out.cell (by simpa using hs1)).trans hx1
      generalize l.getD i z93 = g at x0 x1 x2 x3 x4 x5 hz hn
      clear HE HE2
      go_wp2_with fail
      have hsr := HB.out.size
      have hsr2 : w.heap.size < wr.heap.size := by omega
      obtain ⟨w3, hw3⟩ : ∃ w3, w3 = wr.alloc (.cells #[.int .i64 g.f0, .int .i64 g.f1, .int .i64 g.f2.f0, .int .i64 g.f2.f1, .int .i64 g.f2.f2, .int .i64 g.f2.f3] 93) := ⟨_, rfl⟩
      rw [← hw3]
      have K3 : Aside0 (w3.heap[wr.heap.size]? = some (.cells #[.int .i64 g.f0, .int .i64 g.f1, .int .i64 g.f2.f0, .int .i64 g.f2.f1, .int .i64 g.f2.f2, .int .i64 g.f2.f3] 93 (0, 0))) := ⟨by rw [hw3]; exact heap_alloc_new _ _⟩
      have B3 : Aside0 (Below w1.heap.size w1 w3) := ⟨by rw [hw3]; exact HB.out.alloc hsr _⟩
      clear hw3
      have K2 : Aside0 (w3.cell? ⟨w.heap.size, 3, none⟩ = some (.slice A3 P.f3.length c3)) := ⟨(B3.out.cell (by simpa using hs1)).trans hx1⟩
      clear hxr x0 x1 x2 x3 x4 x5
      have K3 := Aside0.mk (blk_drew K3.out)
      have K2 : Aside0 (w3.drew.cell? ⟨w.heap.size, 3, none⟩ = some (.slice A3 P.f3.length c3)) := ⟨K2.out⟩
      have B3 := Aside0.mk (below_drew1 B3.out)
      by_cases h1 : g.f1 < 1
      · have d1 : decide (g.f1 < 1) = true := decide_eq_true h1
        refine start_ (n := 23) (S := fun w' => w'.cell? ⟨wr.heap.size, 0, none⟩ = some (.int .i64 g.f0) ∧ w'.cell? ⟨wr.heap.size, 1, none⟩ = some (.int .i64 g.f1) ∧ w'.cell? ⟨wr.heap.size, 2, none⟩ = some (.int .i64 g.f2.f0) ∧ w'.cell? ⟨wr.heap.size, 3, none⟩ = some (.int .i64 g.f2.f1) ∧ w'.cell? ⟨wr.heap.size, 4, none⟩ = some (.int .i64 g.f2.f2) ∧ w'.cell? ⟨wr.heap.size, 5, none⟩ = some (.int .i64 g.f2.f3) ∧ w'.cell? ⟨w.heap.size, 3, none⟩ = some (.slice A3 P.f3.length c3)) (ds := []) #[false, false, false, false, false, false, false, false, false, false, false, false, false, false, false, false, false, false, false, false, false, false, false] (by kernel_rfl) rfl rfl ⟨(blk_cell K3.out 0).trans rfl, (blk_cell K3.out 1).trans rfl, (blk_cell K3.out 2).trans rfl, (blk_cell K3.out 3).trans rfl, (blk_cell K3.out 4).trans rfl, (blk_cell K3.out 5).trans rfl, K2.out⟩ (fun hHeld => ?_)
        refine with_tabW guards.tab4 guards.bits4 (fun HT_ HW_ => ?_)
        refine pure_ (i := 0) (N := some 14) (v := ?_) (a' := ?_) #[true, false, false, false, false, false, false, false, false, false, false, false, false, false, false, false, false, false, false, false, false, false, false] rfl rfl (any_of HT_.out (by kernel_rfl)) (fun _ _ _ h => h) (Or.inl ⟨by rfl, ?_⟩) ?_ ?_
        rotate_left
        · intro w'
          go_simp
          with_reducible rfl
        rotate_left
        · simp only [Act.put, List.setIfInBounds_toArray, List.set_cons_zero, List.set_cons_succ, i64_w, i32_w]
          rfl
        refine pure_ (i := 2) (N := some 16) (v := ?_) (a' := ?_) #[true, false, true, false, false, false, false, false, false, false, false, false, false, false, false, false, false, false, false, false, false, false, false] rfl rfl (any_of HT_.out (by kernel_rfl)) (fun _ _ _ h => h) (Or.inl ⟨by rfl, ?_⟩) ?_ ?_
        rotate_left
        · intro w'
          go_simp
          with_reducible rfl
        rotate_left
        · simp only [Act.put, List.setIfInBounds_toArray, List.set_cons_zero, List.set_cons_succ, i64_w, i32_w]
          rfl
        refine pure_ (i := 6) (N := some 20) (v := ?_) (a' := ?_) #[true, false, true, false, false, false, true, false, false, false, false, false, false, false, false, false, false, false, false, false, false, false, false] rfl rfl (any_of HT_.out (by kernel_rfl)) (fun _ _ _ h => h) (Or.inl ⟨by rfl, ?_⟩) ?_ ?_
        rotate_left
        · intro w'
          go_simp
          with_reducible rfl
        rotate_left
        · simp only [Act.put, List.setIfInBounds_toArray, List.set_cons_zero, List.set_cons_succ, i64_w, i32_w]
          rfl
        refine pure_ (i := 15) (N := some 29) (v := ?_) (a' := ?_) #[true, false, true, false, false, false, true, false, false, false, false, false, false, false, false, true, false, false, false, false, false, false, false] rfl rfl (any_of HT_.out (by kernel_rfl)) (fun _ _ _ h => h) (Or.inl ⟨by rfl, ?_⟩) ?_ ?_
        rotate_left
        · intro w'
          go_simp
          with_reducible rfl
        rotate_left
        · simp only [Act.put, List.setIfInBounds_toArray, List.set_cons_zero, List.set_cons_succ, i64_w, i32_w]
          rfl
        refine take_ (i := 1) (N := some 15) (v := ?_) (a' := ?_) #[true, true, true, false, false, false, true, false, false, false, false, false, false, false, false, true, false, false, false, false, false, false, false] rfl rfl (take_ofW HT_.out HW_.out (by kernel_rfl)) (fun _ _ _ h => h) (Or.inl ⟨by rfl, ?_⟩) hHeld ?_ ?_
        rotate_left
        · rintro w' ⟨s0, s1, s2, s3, s4, s5, s6⟩
          go_simp
          with_reducible rfl
        rotate_left
        · simp only [Act.put, List.setIfInBounds_toArray, List.set_cons_zero, List.set_cons_succ, i64_w, i32_w]
          rfl
        refine take_ (i := 3) (N := some 17) (v := ?_) (a' := ?_) #[true, true, true, true, false, false, true, false, false, false, false, false, false, false, false, true, false, false, false, false, false, false, false] rfl rfl (take_ofW HT_.out HW_.out (by kernel_rfl)) (fun _ _ _ h => h) (Or.inl ⟨by rfl, ?_⟩) hHeld ?_ ?_
        rotate_left
        · rintro w' ⟨s0, s1, s2, s3, s4, s5, s6⟩
          go_simp
          with_reducible rfl
        rotate_left
        · simp only [Act.put, List.setIfInBounds_toArray, List.set_cons_zero, List.set_cons_succ, i64_w, i32_w]
          rfl
        refine pure_ (i := 4) (N := some 18) (v := ?_) (a' := ?_) #[true, true, true, true, true, false, true, false, false, false, false, false, false, false, false, true, false, false, false, false, false, false, false] rfl rfl (any_of HT_.out (by kernel_rfl)) (fun _ _ _ h => h) (Or.inl ⟨by rfl, ?_⟩) ?_ ?_
        rotate_left
        · intro w'
          go_simp
          with_reducible rfl
        rotate_left
        · simp only [Act.put, List.setIfInBounds_toArray, List.set_cons_zero, List.set_cons_succ, i64_w, i32_w]
          rfl
        refine take_ (i := 7) (N := some 21) (v := ?_) (a' := ?_) #[true, true, true, true, true, false, true, true, false, false, false, false, false, false, false, true, false, false, false, false, false, false, false] rfl rfl (take_ofW HT_.out HW_.out (by kernel_rfl)) (fun _ _ _ h => h) (Or.inl ⟨by rfl, ?_⟩) hHeld ?_ ?_
        rotate_left
        · rintro w' ⟨s0, s1, s2, s3, s4, s5, s6⟩
          go_simp
          with_reducible rfl
        rotate_left
        · simp only [Act.put, List.setIfInBounds_toArray, List.set_cons_zero, List.set_cons_succ, i64_w, i32_w]
          rfl
        refine pure_ (i := 8) (N := some 22) (v := ?_) (a' := ?_) #[true, true, true, true, true, false, true, true, true, false, false, false, false, false, false, true, false, false, false, false, false, false, false] rfl rfl (any_of HT_.out (by kernel_rfl)) (fun _ _ _ h => h) (Or.inl ⟨by rfl, ?_⟩) ?_ ?_
        rotate_left
        · intro w'
          go_simp
          with_reducible rfl
        rotate_left
        · simp only [Act.put, List.setIfInBounds_toArray, List.set_cons_zero, List.set_cons_succ, i64_w, i32_w]
          rfl
        refine take_ (i := 16) (N := some 30) (v := ?_) (a' := ?_) #[true, true, true, true, true, false, true, true, true, false, false, false, false, false, false, true, true, false, false, false, false, false, false] rfl rfl (take_ofW HT_.out HW_.out (by kernel_rfl)) (fun _ _ _ h => h) (Or.inl ⟨by rfl, ?_⟩) hHeld ?_ ?_
        rotate_left
        · rintro w' ⟨s0, s1, s2, s3, s4, s5, s6⟩
          go_simp
          with_reducible rfl
        rotate_left
        · simp only [Act.put, List.setIfInBounds_toArray, List.set_cons_zero, List.set_cons_succ, i64_w, i32_w]
          rfl
        refine one_ (i := 5) (N := some 19) #[true, true, true, true, true, true, true, true, true, false, false, false, false, false, false, true, true, false, false, false, false, false, false] rfl rfl (one_of HT_.out (by kernel_rfl)) (by decide) (fun K hK => ?_)
        refine goes_ Tryd.func57 (by kernel_rfl) rfl #[.int .i64 g.f0, .int .i64 (P.f3.length : Int)] (by rfl) rfl rfl (by first | rfl | (simp only [List.map_toArray, List.map_cons, List.map_nil]; rfl)) ?_
        refine (idx_any _ _ _).mono ?_
        rintro e w' ⟨rfl, rfl⟩
        refine ⟨_, rfl, ?_⟩
        refine hK.out _ _ ⟨(blk_cell K3.out 0).trans rfl, (blk_cell K3.out 1).trans rfl, (blk_cell K3.out 2).trans rfl, (blk_cell K3.out 3).trans rfl, (blk_cell K3.out 4).trans rfl, (blk_cell K3.out 5).trans rfl, K2.out⟩ (fun hHeld => ?_)
        clear hK K
        refine norm_ (a' := ?_) ?_ ?_
        rotate_left
        · show Act.put _ (some 19) _ = _
          simp only [Act.put, List.setIfInBounds_toArray, List.set_cons_zero, List.set_cons_succ, i64_w, i32_w]
          rfl
        refine pure_ (i := 9) (N := some 23) (v := ?_) (a' := ?_) #[true, true, true, true, true, true, true, true, true, true, false, false, false, false, false, true, true, false, false, false, false, false, false] rfl rfl (any_of HT_.out (by kernel_rfl)) (fun _ _ _ h => h) (Or.inl ⟨by rfl, ?_⟩) ?_ ?_
        rotate_left
        · intro w'
          go_simp
          with_reducible rfl
        rotate_left
        · simp only [Act.put, List.setIfInBounds_toArray, List.set_cons_zero, List.set_cons_succ, i64_w, i32_w]
          rfl
        refine pure_ (i := 10) (N := some 24) (v := undef) (a' := ?_) #[true, true, true, true, true, true, true, true, true, true, true, false, false, false, false, true, true, false, false, false, false, false, false] rfl rfl (any_of HT_.out (by kernel_rfl)) (fun _ _ _ h => h) (Or.inr ⟨by rfl, rfl⟩) ?_ ?_
        rotate_left
        · simp only [Act.put, List.setIfInBounds_toArray, List.set_cons_zero, List.set_cons_succ, i64_w, i32_w]
          rfl
        refine pure_ (i := 11) (N := some 25) (v := undef) (a' := ?_) #[true, true, true, true, true, true, true, true, true, true, true, true, false, false, false, true, true, false, false, false, false, false, false] rfl rfl (any_of HT_.out (by kernel_rfl)) (fun _ _ _ h => h) (Or.inr ⟨by rfl, rfl⟩) ?_ ?_
        rotate_left
        · simp only [Act.put, List.setIfInBounds_toArray, List.set_cons_zero, List.set_cons_succ, i64_w, i32_w]
          rfl
        refine pure_ (i := 12) (N := some 26) (v := undef) (a' := ?_) #[true, true, true, true, true, true, true, true, true, true, true, true, true, false, false, true, true, false, false, false, false, false, false] rfl rfl (any_of HT_.out (by kernel_rfl)) (fun _ _ _ h => h) (Or.inr ⟨by rfl, rfl⟩) ?_ ?_
        rotate_left
        · simp only [Act.put, List.setIfInBounds_toArray, List.set_cons_zero, List.set_cons_succ, i64_w, i32_w]
          rfl
        refine pure_ (i := 13) (N := some 27) (v := ?_) (a' := ?_) #[true, true, true, true, true, true, true, true, true, true, true, true, true, true, false, true, true, false, false, false, false, false, false] rfl rfl (any_of HT_.out (by kernel_rfl)) (fun _ _ _ h => h) (Or.inl ⟨by rfl, ?_⟩) ?_ ?_
        rotate_left
        · intro w'
          go_simp
          with_reducible rfl
        rotate_left
        · simp only [Act.put, List.setIfInBounds_toArray, List.set_cons_zero, List.set_cons_succ, i64_w, i32_w]
          rfl
        refine one_ (i := 14) (N := some 28) #[true, true, true, true, true, true, true, true, true, true, true, true, true, true, true, true, true, false, false, false, false, false, false] rfl rfl (one_of HT_.out (by kernel_rfl)) (by decide) (fun K hK => ?_)
        refine goes_ Tryd.func35 (by kernel_rfl) rfl #[.bool true, .int .i64 1] (by rfl) rfl rfl (by first | rfl | (simp only [List.map_toArray, List.map_cons, List.map_nil]; rfl)) ?_
        refine (when_any _ _ _).mono ?_
        rintro e w' ⟨rfl, rfl⟩
        refine ⟨_, rfl, ?_⟩
        refine hK.out _ _ ⟨(blk_cell K3.out 0).trans rfl, (blk_cell K3.out 1).trans rfl, (blk_cell K3.out 2).trans rfl, (blk_cell K3.out 3).trans rfl, (blk_cell K3.out 4).trans rfl, (blk_cell K3.out 5).trans rfl, K2.out⟩ (fun hHeld => ?_)
        clear hK K
        refine norm_ (a' := ?_) ?_ ?_
        rotate_left
        · show Act.put _ (some 28) _ = _
          simp only [Act.put, List.setIfInBounds_toArray, List.set_cons_zero, List.set_cons_succ, i64_w, i32_w]
          rfl
        refine one_ (i := 17) (N := some 31) #[true, true, true, true, true, true, true, true, true, true, true, true, true, true, true, true, true, true, false, false, false, false, false] rfl rfl (one_of HT_.out (by kernel_rfl)) (by decide) (fun K hK => ?_)
        refine goes_ Tryd.func26 (by kernel_rfl) rfl #[.agg #[.int .i64 g.f2.f0, .int .i64 g.f2.f1, .int .i64 g.f2.f2, .int .i64 g.f2.f3]] (by rfl) rfl rfl (by first | rfl | (simp only [List.map_toArray, List.map_cons, List.map_nil]; rfl)) ?_
        refine (bnd_b g.f2 _).mono ?_
        rintro e w' ⟨rfl, hb⟩
        refine ⟨_, rfl, ?_⟩
        have n0_ := Aside0.mk (blk_below K3.out hb)
        have n1_ := Aside0.mk ((Below.cell hb (World.block_lt_of_cell? _ _ K2.out)).trans K2.out)
        have n2_ := Aside0.mk (B3.out.trans (Below.mono hb B3.out.size))
        clear K3 K2 B3
        have K3 := n0_
        have K2 := n1_
        have B3 := n2_
        clear n0_ n1_ n2_
        clear hb
        refine hK.out _ _ ⟨(blk_cell K3.out 0).trans rfl, (blk_cell K3.out 1).trans rfl, (blk_cell K3.out 2).trans rfl, (blk_cell K3.out 3).trans rfl, (blk_cell K3.out 4).trans rfl, (blk_cell K3.out 5).trans rfl, K2.out⟩ (fun hHeld => ?_)
        clear hK K
        refine norm_ (a' := ?_) ?_ ?_
        rotate_left
        · show Act.put _ (some 31) _ = _
          simp only [Act.put, List.setIfInBounds_toArray, List.set_cons_zero, List.set_cons_succ, i64_w, i32_w]
          rfl
        refine pure_ (i := 18) (N := some 32) (v := ?_) (a' := ?_) #[true, true, true, true, true, true, true, true, true, true, true, true, true, true, true, true, true, true, true, false, false, false, false] rfl rfl (any_of HT_.out (by kernel_rfl)) (fun _ _ _ h => h) (Or.inl ⟨by rfl, ?_⟩) ?_ ?_
        rotate_left
        · intro w'
          go_simp
          with_reducible rfl
        rotate_left
        · simp only [Act.put, List.setIfInBounds_toArray, List.set_cons_zero, List.set_cons_succ, i64_w, i32_w]
          rfl
        refine one_ (i := 19) (N := some 33) #[true, true, true, true, true, true, true, true, true, true, true, true, true, true, true, true, true, true, true, true, false, false, false] rfl rfl (one_of HT_.out (by kernel_rfl)) (by decide) (fun K hK => ?_)
        refine goes_ Tryd.func35 (by kernel_rfl) rfl #[.bool (!bndE g.f2), .int .i64 4] (by rfl) rfl rfl (by first | rfl | (simp only [List.map_toArray, List.map_cons, List.map_nil]; rfl)) ?_
        refine (when_any _ _ _).mono ?_
        rintro e w' ⟨rfl, rfl⟩
        refine ⟨_, rfl, ?_⟩
        refine hK.out _ _ ⟨(blk_cell K3.out 0).trans rfl, (blk_cell K3.out 1).trans rfl, (blk_cell K3.out 2).trans rfl, (blk_cell K3.out 3).trans rfl, (blk_cell K3.out 4).trans rfl, (blk_cell K3.out 5).trans rfl, K2.out⟩ (fun hHeld => ?_)
        clear hK K
        refine norm_ (a' := ?_) ?_ ?_
        rotate_left
        · show Act.put _ (some 33) _ = _
          simp only [Act.put, List.setIfInBounds_toArray, List.set_cons_zero, List.set_cons_succ, i64_w, i32_w]
          rfl
        refine one_ (i := 20) (N := some 34) #[true, true, true, true, true, true, true, true, true, true, true, true, true, true, true, true, true, true, true, true, true, false, false] rfl rfl (one_of HT_.out (by kernel_rfl)) (by decide) (fun K hK => ?_)
        refine Kd.R_lit_step (Kd.int .i64) _ 36 ?hg (N := 34) ?hd (xs := ([(idxE g.f0 P.f3.length), (whenE true 1), (whenE (!bndE g.f2) 4)] : List Int)) (inner := [.int .i64 (idxE g.f0 P.f3.length), .int .i64 (whenE true 1), .int .i64 (whenE (!bndE g.f2) 4)]) (ok := fun _ => True) (okp := fun _ => True) ?hr ?hp (fun _ hk => hk) trivial (Below.refl _ _) (Nat.le_refl _) (by simp) ?_; (case hd => rfl); (case hg => rfl); (case hr => first | (go_simp; done) | (go_simp; rfl)); (case hp => exact (Reps.one (show Kd.M (Kd.int .i64) _ _ _ (idxE g.f0 P.f3.length) [.int .i64 (idxE g.f0 P.f3.length)] from rfl) (Reps.one (show Kd.M (Kd.int .i64) _ _ _ (whenE true 1) [.int .i64 (whenE true 1)] from rfl) (Reps.one (show Kd.M (Kd.int .i64) _ _ _ (whenE (!bndE g.f2) 4) [.int .i64 (whenE (!bndE g.f2) 4)] from rfl) (Reps.none _ _)))))
        intro vL wL ho hb hg_ hnew_
        clear hg_ hnew_
        obtain ⟨aL, cL, rfl⟩ := Kd.R_slice ho
        have HL := Aside0.mk (Kd.R_reads' ho)
        clear ho
        have n0_ := Aside0.mk (blk_below K3.out hb)
        have n1_ := Aside0.mk ((Below.cell hb (World.block_lt_of_cell? _ _ K2.out)).trans K2.out)
        have n2_ := Aside0.mk (B3.out.trans (Below.mono hb B3.out.size))
        clear K3 K2 B3
        have K3 := n0_
        have K2 := n1_
        have B3 := n2_
        clear n0_ n1_ n2_
        clear hb
        refine hK.out _ _ ⟨(blk_cell K3.out 0).trans rfl, (blk_cell K3.out 1).trans rfl, (blk_cell K3.out 2).trans rfl, (blk_cell K3.out 3).trans rfl, (blk_cell K3.out 4).trans rfl, (blk_cell K3.out 5).trans rfl, K2.out⟩ (fun hHeld => ?_)
        clear hK K
        refine norm_ (a' := ?_) ?_ ?_
        rotate_left
        · show Act.put _ (some 34) _ = _
          simp only [Act.put, List.setIfInBounds_toArray, List.set_cons_zero, List.set_cons_succ, i64_w, i32_w]
          rfl
        refine one_ (i := 21) (N := some 35) #[true, true, true, true, true, true, true, true, true, true, true, true, true, true, true, true, true, true, true, true, true, true, false] rfl rfl (one_of HT_.out (by kernel_rfl)) (by decide) (fun K hK => ?_)
        refine goes_ Tryd.func22 (by kernel_rfl) rfl #[.slice aL 3 cL] (by rfl) rfl rfl (by first | rfl | (simp only [List.map_toArray, List.map_cons, List.map_nil]; rfl)) ?_
        refine (first_any _ _ [idxE g.f0 P.f3.length, whenE true 1, whenE (!bndE g.f2) 4] _ HL.out.2.2).mono ?_
        rintro e w' ⟨rfl, rfl⟩
        refine ⟨_, rfl, ?_⟩
        refine hK.out _ _ ⟨(blk_cell K3.out 0).trans rfl, (blk_cell K3.out 1).trans rfl, (blk_cell K3.out 2).trans rfl, (blk_cell K3.out 3).trans rfl, (blk_cell K3.out 4).trans rfl, (blk_cell K3.out 5).trans rfl, K2.out⟩ (fun hHeld => ?_)
        clear hK K
        refine norm_ (a' := ?_) ?_ ?_
        rotate_left
        · show Act.put _ (some 35) _ = _
          simp only [Act.put, List.setIfInBounds_toArray, List.set_cons_zero, List.set_cons_succ, i64_w, i32_w]
          rfl
        refine pure_ (i := 22) (N := some 7) (v := ?_) (a' := ?_) #[true, true, true, true, true, true, true, true, true, true, true, true, true, true, true, true, true, true, true, true, true, true, true] rfl rfl (any_of HT_.out (by kernel_rfl)) (fun _ _ _ h => h) (Or.inl ⟨by rfl, ?_⟩) ?_ ?_
        rotate_left
        · intro w'
          go_simp
          with_reducible rfl
        rotate_left
        · simp only [Act.put, List.setIfInBounds_toArray, List.set_cons_zero, List.set_cons_succ, i64_w, i32_w]
          rfl
        refine done_ (done_of HT_.out (by kernel_rfl)) ?_
        have hg : firstE [idxE g.f0 P.f3.length, whenE true 1, whenE (!bndE g.f2) 4] = guardE P.f3.length g := by unfold guardE; rw [d1]; rfl
        rw [hg]
        clear K3 K2 HL hg hHeld
        generalize guardE (P.f3.length : Int) g = q at hz hn
        by_cases h0 : q = 0
        · have d0 : (q != 0) = false := bne_eq_false_iff_eq.mpr h0
          have HE := Aside0.mk (hz h0)
          clear hz hn h0
          go_wp2_with fail
          go_roundw
          case rel => exact ⟨i + 1, by omega, by go_num, ⟨by rw [show l.length - (i + 1) = b by omega]; exact HE.out⟩, B3⟩
          case measure => simp [intOf]; omega
        · have d0 : (q != 0) = true := bne_iff_ne.mpr h0
          have HE := Aside0.mk (hn h0)
          clear hz hn
          go_wp2_with fail
          go_ret
          exact ⟨by unfold guardsE; rw [← HE.out, if_neg h0]; rfl, HB1.out.trans (B3.out.mono HB1.out.size)⟩
      · have d1 : decide (g.f1 < 1) = false := decide_eq_false h1
        refine start_ (n := 23) (S := fun w' => w'.cell? ⟨wr.heap.size, 0, none⟩ = some (.int .i64 g.f0) ∧ w'.cell? ⟨wr.heap.size, 1, none⟩ = some (.int .i64 g.f1) ∧ w'.cell? ⟨wr.heap.size, 2, none⟩ = some (.int .i64 g.f2.f0) ∧ w'.cell? ⟨wr.heap.size, 3, none⟩ = some (.int .i64 g.f2.f1) ∧ w'.cell? ⟨wr.heap.size, 4, none⟩ = some (.int .i64 g.f2.f2) ∧ w'.cell? ⟨wr.heap.size, 5, none⟩ = some (.int .i64 g.f2.f3) ∧ w'.cell? ⟨w.heap.size, 3, none⟩ = some (.slice A3 P.f3.length c3)) (ds := []) #[false, false, false, false, false, false, false, false, false, false, false, false, false, false, false, false, false, false, false, false, false, false, false] (by kernel_rfl) rfl rfl ⟨(blk_cell K3.out 0).trans rfl, (blk_cell K3.out 1).trans rfl, (blk_cell K3.out 2).trans rfl, (blk_cell K3.out 3).trans rfl, (blk_cell K3.out 4).trans rfl, (blk_cell K3.out 5).trans rfl, K2.out⟩ (fun hHeld => ?_)
        refine with_tabW guards.tab4 guards.bits4 (fun HT_ HW_ => ?_)
        refine pure_ (i := 0) (N := some 14) (v := ?_) (a' := ?_) #[true, false, false, false, false, false, false, false, false, false, false, false, false, false, false, false, false, false, false, false, false, false, false] rfl rfl (any_of HT_.out (by kernel_rfl)) (fun _ _ _ h => h) (Or.inl ⟨by rfl, ?_⟩) ?_ ?_
        rotate_left
        · intro w'
          go_simp
          with_reducible rfl
        rotate_left
        · simp only [Act.put, List.setIfInBounds_toArray, List.set_cons_zero, List.set_cons_succ, i64_w, i32_w]
          rfl
        refine pure_ (i := 2) (N := some 16) (v := ?_) (a' := ?_) #[true, false, true, false, false, false, false, false, false, false, false, false, false, false, false, false, false, false, false, false, false, false, false] rfl rfl (any_of HT_.out (by kernel_rfl)) (fun _ _ _ h => h) (Or.inl ⟨by rfl, ?_⟩) ?_ ?_
        rotate_left
        · intro w'
          go_simp
          with_reducible rfl
        rotate_left
        · simp only [Act.put, List.setIfInBounds_toArray, List.set_cons_zero, List.set_cons_succ, i64_w, i32_w]
          rfl
        refine pure_ (i := 6) (N := some 20) (v := ?_) (a' := ?_) #[true, false, true, false, false, false, true, false, false, false, false, false, false, false, false, false, false, false, false, false, false, false, false] rfl rfl (any_of HT_.out (by kernel_rfl)) (fun _ _ _ h => h) (Or.inl ⟨by rfl, ?_⟩) ?_ ?_
        rotate_left
        · intro w'
          go_simp
          with_reducible rfl
        rotate_left
        · simp only [Act.put, List.setIfInBounds_toArray, List.set_cons_zero, List.set_cons_succ, i64_w, i32_w]
          rfl
        refine pure_ (i := 15) (N := some 29) (v := ?_) (a' := ?_) #[true, false, true, false, false, false, true, false, false, false, false, false, false, false, false, true, false, false, false, false, false, false, false] rfl rfl (any_of HT_.out (by kernel_rfl)) (fun _ _ _ h => h) (Or.inl ⟨by rfl, ?_⟩) ?_ ?_
        rotate_left
        · intro w'
          go_simp
          with_reducible rfl
        rotate_left
        · simp only [Act.put, List.setIfInBounds_toArray, List.set_cons_zero, List.set_cons_succ, i64_w, i32_w]
          rfl
        refine take_ (i := 1) (N := some 15) (v := ?_) (a' := ?_) #[true, true, true, false, false, false, true, false, false, false, false, false, false, false, false, true, false, false, false, false, false, false, false] rfl rfl (take_ofW HT_.out HW_.out (by kernel_rfl)) (fun _ _ _ h => h) (Or.inl ⟨by rfl, ?_⟩) hHeld ?_ ?_
        rotate_left
        · rintro w' ⟨s0, s1, s2, s3, s4, s5, s6⟩
          go_simp
          with_reducible rfl
        rotate_left
        · simp only [Act.put, List.setIfInBounds_toArray, List.set_cons_zero, List.set_cons_succ, i64_w, i32_w]
          rfl
        refine take_ (i := 3) (N := some 17) (v := ?_) (a' := ?_) #[true, true, true, true, false, false, true, false, false, false, false, false, false, false, false, true, false, false, false, false, false, false, false] rfl rfl (take_ofW HT_.out HW_.out (by kernel_rfl)) (fun _ _ _ h => h) (Or.inl ⟨by rfl, ?_⟩) hHeld ?_ ?_
        rotate_left
        · rintro w' ⟨s0, s1, s2, s3, s4, s5, s6⟩
          go_simp
          with_reducible rfl
        rotate_left
        · simp only [Act.put, List.setIfInBounds_toArray, List.set_cons_zero, List.set_cons_succ, i64_w, i32_w]
          rfl
        refine pure_ (i := 4) (N := some 18) (v := ?_) (a' := ?_) #[true, true, true, true, true, false, true, false, false, false, false, false, false, false, false, true, false, false, false, false, false, false, false] rfl rfl (any_of HT_.out (by kernel_rfl)) (fun _ _ _ h => h) (Or.inl ⟨by rfl, ?_⟩) ?_ ?_
        rotate_left
        · intro w'
          go_simp
          with_reducible rfl
        rotate_left
        · simp only [Act.put, List.setIfInBounds_toArray, List.set_cons_zero, List.set_cons_succ, i64_w, i32_w]
          rfl
        refine take_ (i := 7) (N := some 21) (v := ?_) (a' := ?_) #[true, true, true, true, true, false, true, true, false, false, false, false, false, false, false, true, false, false, false, false, false, false, false] rfl rfl (take_ofW HT_.out HW_.out (by kernel_rfl)) (fun _ _ _ h => h) (Or.inl ⟨by rfl, ?_⟩) hHeld ?_ ?_
        rotate_left
        · rintro w' ⟨s0, s1, s2, s3, s4, s5, s6⟩
          go_simp
          with_reducible rfl
        rotate_left
        · simp only [Act.put, List.setIfInBounds_toArray, List.set_cons_zero, List.set_cons_succ, i64_w, i32_w]
          rfl
        refine pure_ (i := 8) (N := some 22) (v := ?_) (a' := ?_) #[true, true, true, true, true, false, true, true, true, false, false, false, false, false, false, true, false, false, false, false, false, false, false] rfl rfl (any_of HT_.out (by kernel_rfl)) (fun _ _ _ h => h) (Or.inl ⟨by rfl, ?_⟩) ?_ ?_
        rotate_left
        · intro w'
          go_simp
          with_reducible rfl
        rotate_left
        · simp only [Act.put, List.setIfInBounds_toArray, List.set_cons_zero, List.set_cons_succ, i64_w, i32_w]
          rfl
        refine take_ (i := 16) (N := some 30) (v := ?_) (a' := ?_) #[true, true, true, true, true, false, true, true, true, false, false, false, false, false, false, true, true, false, false, false, false, false, false] rfl rfl (take_ofW HT_.out HW_.out (by kernel_rfl)) (fun _ _ _ h => h) (Or.inl ⟨by rfl, ?_⟩) hHeld ?_ ?_
        rotate_left
        · rintro w' ⟨s0, s1, s2, s3, s4, s5, s6⟩
          go_simp
          with_reducible rfl
        rotate_left
        · simp only [Act.put, List.setIfInBounds_toArray, List.set_cons_zero, List.set_cons_succ, i64_w, i32_w]
          rfl
        refine one_ (i := 5) (N := some 19) #[true, true, true, true, true, true, true, true, true, false, false, false, false, false, false, true, true, false, false, false, false, false, false] rfl rfl (one_of HT_.out (by kernel_rfl)) (by decide) (fun K hK => ?_)
        refine goes_ Tryd.func57 (by kernel_rfl) rfl #[.int .i64 g.f0, .int .i64 (P.f3.length : Int)] (by rfl) rfl rfl (by first | rfl | (simp only [List.map_toArray, List.map_cons, List.map_nil]; rfl)) ?_
        refine (idx_any _ _ _).mono ?_
        rintro e w' ⟨rfl, rfl⟩
        refine ⟨_, rfl, ?_⟩
        refine hK.out _ _ ⟨(blk_cell K3.out 0).trans rfl, (blk_cell K3.out 1).trans rfl, (blk_cell K3.out 2).trans rfl, (blk_cell K3.out 3).trans rfl, (blk_cell K3.out 4).trans rfl, (blk_cell K3.out 5).trans rfl, K2.out⟩ (fun hHeld => ?_)
        clear hK K
        refine norm_ (a' := ?_) ?_ ?_
        rotate_left
        · show Act.put _ (some 19) _ = _
          simp only [Act.put, List.setIfInBounds_toArray, List.set_cons_zero, List.set_cons_succ, i64_w, i32_w]
          rfl
        refine pure_ (i := 9) (N := some 23) (v := ?_) (a' := ?_) #[true, true, true, true, true, true, true, true, true, true, false, false, false, false, false, true, true, false, false, false, false, false, false] rfl rfl (any_of HT_.out (by kernel_rfl)) (fun _ _ _ h => h) (Or.inl ⟨by rfl, ?_⟩) ?_ ?_
        rotate_left
        · intro w'
          go_simp
          with_reducible rfl
        rotate_left
        · simp only [Act.put, List.setIfInBounds_toArray, List.set_cons_zero, List.set_cons_succ, i64_w, i32_w]
          rfl
        refine pure_ (i := 10) (N := some 24) (v := ?_) (a' := ?_) #[true, true, true, true, true, true, true, true, true, true, true, false, false, false, false, true, true, false, false, false, false, false, false] rfl rfl (any_of HT_.out (by kernel_rfl)) (fun _ _ _ h => h) (Or.inl ⟨by rfl, ?_⟩) ?_ ?_
        rotate_left
        · intro w'
          go_simp
          with_reducible rfl
        rotate_left
        · simp only [Act.put, List.setIfInBounds_toArray, List.set_cons_zero, List.set_cons_succ, i64_w, i32_w]
          rfl
        refine take_ (i := 11) (N := some 25) (v := ?_) (a' := ?_) #[true, true, true, true, true, true, true, true, true, true, true, true, false, false, false, true, true, false, false, false, false, false, false] rfl rfl (take_ofW HT_.out HW_.out (by kernel_rfl)) (fun _ _ _ h => h) (Or.inl ⟨by rfl, ?_⟩) hHeld ?_ ?_
        rotate_left
        · rintro w' ⟨s0, s1, s2, s3, s4, s5, s6⟩
          go_simp
          with_reducible rfl
        rotate_left
        · simp only [Act.put, List.setIfInBounds_toArray, List.set_cons_zero, List.set_cons_succ, i64_w, i32_w]
          rfl
        refine pure_ (i := 12) (N := some 26) (v := ?_) (a' := ?_) #[true, true, true, true, true, true, true, true, true, true, true, true, true, false, false, true, true, false, false, false, false, false, false] rfl rfl (any_of HT_.out (by kernel_rfl)) (fun _ _ _ h => h) (Or.inl ⟨by rfl, ?_⟩) ?_ ?_
        rotate_left
        · intro w'
          go_simp
          with_reducible rfl
        rotate_left
        · simp only [Act.put, List.setIfInBounds_toArray, List.set_cons_zero, List.set_cons_succ, i64_w, i32_w]
          rfl
        refine pure_ (i := 13) (N := some 27) (v := ?_) (a' := ?_) #[true, true, true, true, true, true, true, true, true, true, true, true, true, true, false, true, true, false, false, false, false, false, false] rfl rfl (any_of HT_.out (by kernel_rfl)) (fun _ _ _ h => h) (Or.inl ⟨by rfl, ?_⟩) ?_ ?_
        rotate_left
        · intro w'
          go_simp
          with_reducible rfl
        rotate_left
        · simp only [Act.put, List.setIfInBounds_toArray, List.set_cons_zero, List.set_cons_succ, i64_w, i32_w]
          rfl
        refine one_ (i := 14) (N := some 28) #[true, true, true, true, true, true, true, true, true, true, true, true, true, true, true, true, true, false, false, false, false, false, false] rfl rfl (one_of HT_.out (by kernel_rfl)) (by decide) (fun K hK => ?_)
        refine goes_ Tryd.func35 (by kernel_rfl) rfl #[.bool (decide (100 < g.f1)), .int .i64 1] (by rfl) rfl rfl (by first | rfl | (simp only [List.map_toArray, List.map_cons, List.map_nil]; rfl)) ?_
        refine (when_any _ _ _).mono ?_
        rintro e w' ⟨rfl, rfl⟩
        refine ⟨_, rfl, ?_⟩
        refine hK.out _ _ ⟨(blk_cell K3.out 0).trans rfl, (blk_cell K3.out 1).trans rfl, (blk_cell K3.out 2).trans rfl, (blk_cell K3.out 3).trans rfl, (blk_cell K3.out 4).trans rfl, (blk_cell K3.out 5).trans rfl, K2.out⟩ (fun hHeld => ?_)
        clear hK K
        refine norm_ (a' := ?_) ?_ ?_
        rotate_left
        · show Act.put _ (some 28) _ = _
          simp only [Act.put, List.setIfInBounds_toArray, List.set_cons_zero, List.set_cons_succ, i64_w, i32_w]
          rfl
        refine one_ (i := 17) (N := some 31) #[true, true, true, true, true, true, true, true, true, true, true, true, true, true, true, true, true, true, false, false, false, false, false] rfl rfl (one_of HT_.out (by kernel_rfl)) (by decide) (fun K hK => ?_)
        refine goes_ Tryd.func26 (by kernel_rfl) rfl #[.agg #[.int .i64 g.f2.f0, .int .i64 g.f2.f1, .int .i64 g.f2.f2, .int .i64 g.f2.f3]] (by rfl) rfl rfl (by first | rfl | (simp only [List.map_toArray, List.map_cons, List.map_nil]; rfl)) ?_
        refine (bnd_b g.f2 _).mono ?_
        rintro e w' ⟨rfl, hb⟩
        refine ⟨_, rfl, ?_⟩
        have n0_ := Aside0.mk (blk_below K3.out hb)
        have n1_ := Aside0.mk ((Below.cell hb (World.block_lt_of_cell? _ _ K2.out)).trans K2.out)
        have n2_ := Aside0.mk (B3.out.trans (Below.mono hb B3.out.size))
        clear K3 K2 B3
        have K3 := n0_
        have K2 := n1_
        have B3 := n2_
        clear n0_ n1_ n2_
        clear hb
        refine hK.out _ _ ⟨(blk_cell K3.out 0).trans rfl, (blk_cell K3.out 1).trans rfl, (blk_cell K3.out 2).trans rfl, (blk_cell K3.out 3).trans rfl, (blk_cell K3.out 4).trans rfl, (blk_cell K3.out 5).trans rfl, K2.out⟩ (fun hHeld => ?_)
        clear hK K
        refine norm_ (a' := ?_) ?_ ?_
        rotate_left
        · show Act.put _ (some 31) _ = _
          simp only [Act.put, List.setIfInBounds_toArray, List.set_cons_zero, List.set_cons_succ, i64_w, i32_w]
          rfl
        refine pure_ (i := 18) (N := some 32) (v := ?_) (a' := ?_) #[true, true, true, true, true, true, true, true, true, true, true, true, true, true, true, true, true, true, true, false, false, false, false] rfl rfl (any_of HT_.out (by kernel_rfl)) (fun _ _ _ h => h) (Or.inl ⟨by rfl, ?_⟩) ?_ ?_
        rotate_left
        · intro w'
          go_simp
          with_reducible rfl
        rotate_left
        · simp only [Act.put, List.setIfInBounds_toArray, List.set_cons_zero, List.set_cons_succ, i64_w, i32_w]
          rfl
        refine one_ (i := 19) (N := some 33) #[true, true, true, true, true, true, true, true, true, true, true, true, true, true, true, true, true, true, true, true, false, false, false] rfl rfl (one_of HT_.out (by kernel_rfl)) (by decide) (fun K hK => ?_)
        refine goes_ Tryd.func35 (by kernel_rfl) rfl #[.bool (!bndE g.f2), .int .i64 4] (by rfl) rfl rfl (by first | rfl | (simp only [List.map_toArray, List.map_cons, List.map_nil]; rfl)) ?_
        refine (when_any _ _ _).mono ?_
        rintro e w' ⟨rfl, rfl⟩
        refine ⟨_, rfl, ?_⟩
        refine hK.out _ _ ⟨(blk_cell K3.out 0).trans rfl, (blk_cell K3.out 1).trans rfl, (blk_cell K3.out 2).trans rfl, (blk_cell K3.out 3).trans rfl, (blk_cell K3.out 4).trans rfl, (blk_cell K3.out 5).trans rfl, K2.out⟩ (fun hHeld => ?_)
        clear hK K
        refine norm_ (a' := ?_) ?_ ?_
        rotate_left
        · show Act.put _ (some 33) _ = _
          simp only [Act.put, List.setIfInBounds_toArray, List.set_cons_zero, List.set_cons_succ, i64_w, i32_w]
          rfl
        refine one_ (i := 20) (N := some 34) #[true, true, true, true, true, true, true, true, true, true, true, true, true, true, true, true, true, true, true, true, true, false, false] rfl rfl (one_of HT_.out (by kernel_rfl)) (by decide) (fun K hK => ?_)
        refine Kd.R_lit_step (Kd.int .i64) _ 36 ?hg (N := 34) ?hd (xs := ([(idxE g.f0 P.f3.length), (whenE (decide (100 < g.f1)) 1), (whenE (!bndE g.f2) 4)] : List Int)) (inner := [.int .i64 (idxE g.f0 P.f3.length), .int .i64 (whenE (decide (100 < g.f1)) 1), .int .i64 (whenE (!bndE g.f2) 4)]) (ok := fun _ => True) (okp := fun _ => True) ?hr ?hp (fun _ hk => hk) trivial (Below.refl _ _) (Nat.le_refl _) (by simp) ?_; (case hd => rfl); (case hg => rfl); (case hr => first | (go_simp; done) | (go_simp; rfl)); (case hp => exact (Reps.one (show Kd.M (Kd.int .i64) _ _ _ (idxE g.f0 P.f3.length) [.int .i64 (idxE g.f0 P.f3.length)] from rfl) (Reps.one (show Kd.M (Kd.int .i64) _ _ _ (whenE (decide (100 < g.f1)) 1) [.int .i64 (whenE (decide (100 < g.f1)) 1)] from rfl) (Reps.one (show Kd.M (Kd.int .i64) _ _ _ (whenE (!bndE g.f2) 4) [.int .i64 (whenE (!bndE g.f2) 4)] from rfl) (Reps.none _ _)))))
        intro vL wL ho hb hg_ hnew_
        clear hg_ hnew_
        obtain ⟨aL, cL, rfl⟩ := Kd.R_slice ho
        have HL := Aside0.mk (Kd.R_reads' ho)
        clear ho
        have n0_ := Aside0.mk (blk_below K3.out hb)
        have n1_ := Aside0.mk ((Below.cell hb (World.block_lt_of_cell? _ _ K2.out)).trans K2.out)
        have n2_ := Aside0.mk (B3.out.trans (Below.mono hb B3.out.size))
        clear K3 K2 B3
        have K3 := n0_
        have K2 := n1_
        have B3 := n2_
        clear n0_ n1_ n2_
        clear hb
        refine hK.out _ _ ⟨(blk_cell K3.out 0).trans rfl, (blk_cell K3.out 1).trans rfl, (blk_cell K3.out 2).trans rfl, (blk_cell K3.out 3).trans rfl, (blk_cell K3.out 4).trans rfl, (blk_cell K3.out 5).trans rfl, K2.out⟩ (fun hHeld => ?_)
        clear hK K
        refine norm_ (a' := ?_) ?_ ?_
        rotate_left
        · show Act.put _ (some 34) _ = _
          simp only [Act.put, List.setIfInBounds_toArray, List.set_cons_zero, List.set_cons_succ, i64_w, i32_w]
          rfl
        refine one_ (i := 21) (N := some 35) #[true, true, true, true, true, true, true, true, true, true, true, true, true, true, true, true, true, true, true, true, true, true, false] rfl rfl (one_of HT_.out (by kernel_rfl)) (by decide) (fun K hK => ?_)
        refine goes_ Tryd.func22 (by kernel_rfl) rfl #[.slice aL 3 cL] (by rfl) rfl rfl (by first | rfl | (simp only [List.map_toArray, List.map_cons, List.map_nil]; rfl)) ?_
        refine (first_any _ _ [idxE g.f0 P.f3.length, whenE (decide (100 < g.f1)) 1, whenE (!bndE g.f2) 4] _ HL.out.2.2).mono ?_
        rintro e w' ⟨rfl, rfl⟩
        refine ⟨_, rfl, ?_⟩
        refine hK.out _ _ ⟨(blk_cell K3.out 0).trans rfl, (blk_cell K3.out 1).trans rfl, (blk_cell K3.out 2).trans rfl, (blk_cell K3.out 3).trans rfl, (blk_cell K3.out 4).trans rfl, (blk_cell K3.out 5).trans rfl, K2.out⟩ (fun hHeld => ?_)
        clear hK K
        refine norm_ (a' := ?_) ?_ ?_
        rotate_left
        · show Act.put _ (some 35) _ = _
          simp only [Act.put, List.setIfInBounds_toArray, List.set_cons_zero, List.set_cons_succ, i64_w, i32_w]
          rfl
        refine pure_ (i := 22) (N := some 7) (v := ?_) (a' := ?_) #[true, true, true, true, true, true, true, true, true, true, true, true, true, true, true, true, true, true, true, true, true, true, true] rfl rfl (any_of HT_.out (by kernel_rfl)) (fun _ _ _ h => h) (Or.inl ⟨by rfl, ?_⟩) ?_ ?_
        rotate_left
        · intro w'
          go_simp
          with_reducible rfl
        rotate_left
        · simp only [Act.put, List.setIfInBounds_toArray, List.set_cons_zero, List.set_cons_succ, i64_w, i32_w]
          rfl
        refine done_ (done_of HT_.out (by kernel_rfl)) ?_
        have hg : firstE [idxE g.f0 P.f3.length, whenE (decide (100 < g.f1)) 1, whenE (!bndE g.f2) 4] = guardE P.f3.length g := by unfold guardE; rw [d1]; rfl
        rw [hg]
        clear K3 K2 HL hg hHeld
        generalize guardE (P.f3.length : Int) g = q at hz hn
        by_cases h0 : q = 0
        · have d0 : (q != 0) = false := bne_eq_false_iff_eq.mpr h0
          have HE := Aside0.mk (hz h0)
          clear hz hn h0
          go_wp2_with fail
          go_roundw
          case rel => exact ⟨i + 1, by omega, by go_num, ⟨by rw [show l.length - (i + 1) = b by omega]; exact HE.out⟩, B3⟩
          case measure => simp [intOf]; omega
        · have d0 : (q != 0) = true := bne_iff_ne.mpr h0
          have HE := Aside0.mk (hn h0)
          clear hz hn
          go_wp2_with fail
          go_ret
          exact ⟨by unfold guardsE; rw [← HE.out, if_neg h0]; rfl, HB1.out.trans (B3.out.mono HB1.out.size)⟩
    · have hi2 : i = l.length := by omega
      subst hi2
      rw [Nat.sub_self] at HE
      go_wp2_with fail
      refine (when_any (decide ((2 : Int) < l.length)) 4 _).mono ?_
      rintro e w' ⟨rfl, rfl⟩
      go_wp2_with fail
      go_ret
      exact ⟨by unfold guardsE; rw [← HE.out]; rfl, HB1.out.trans (HB.out.mono HB1.out.size)⟩
end Go.Proofs.YtoggkfapdomhgaaDoor.Pr
