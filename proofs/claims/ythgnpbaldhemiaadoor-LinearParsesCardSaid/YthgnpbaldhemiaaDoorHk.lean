/- The contract of linear.Tighten at the one row that the statements hand it; no conditions beside that row. -/
import Derived.Test.YthgnpbaldhemiaaDoorHa
import Derived.Test.YthgnpbaldhemiaaDoorPx3
namespace Go.Proofs.YthgnpbaldhemiaaDoor.Pr
open Go.RowKit Go.Proofs.YthgnpbaldhemiaaDoorW.PrintWords Go.Proofs.YthgnpbaldhemiaaDoorW.PrintLast Go.Proofs.YthgnpbaldhemiaaDoorW.PrintMore
set_option linter.unusedVariables false
set_option linter.unusedSimpArgs false

def linear_Tighten.f (l0_0 : List Int) (a0_1 : Int) : Option (List Int × Int) := if l0_0 = [2, -4] ∧ a0_1 = -3 then some ([1, -2], -2) else none
/-- The coefficients after so many rounds. -/
def tightRow : Nat → List Int
  | 0 => [2, -4]
  | 1 => [1, -4]
  | _ => [1, -2]
theorem tight_small : linear_small.f 9 [2, -4] (-3) = some true := by decide +kernel
theorem tight_div : linear_divisor.f 9 [2, -4] (-3) = some 2 := by decide +kernel
theorem tight_floor : linear_floor.f (-3) 2 = some (-2) := by decide +kernel
set_option maxHeartbeats 2000000 in
set_option maxRecDepth 100000 in
theorem tight_any (A0_0 : Option Addr) (c0_0 : Nat) (w : World) (hr0_0 : Kd.C (Kd.int .i64) w A0_0 2 [2, -4]) (hc0_0 : 2 ≤ c0_0) :
    Calls Tryd.prog 11 #[.agg #[.slice A0_0 2 c0_0, .int .i64 (-3)]] w fun e w' => ∃ v0_ : Value, e = .returned (.agg #[v0_, .int .i64 (-2)]) ∧ Kd.R (Kd.int .i64) 3 w' w.heap.size (fun _ => True) v0_ [1, -2] ∧ Below w.heap.size w w' := by
  have HR := Aside0.mk hr0_0
  have T1 := Aside0.mk tight_small
  have T2 := Aside0.mk tight_div
  have T3 := Aside0.mk tight_floor
  clear hr0_0
  go_enter Tryd.func11, Tryd.ntmps11
  go_wp2_with fail
  refine (linear_clone.calls A0_0 c0_0 [2, -4] (-3) [2, -4] (-3) _ (Kd.C_alloc (Kd.C_alloc HR.out _) _) hc0_0 (by decide)).mono ?_
  rintro e w1 ⟨v, rfl, hR, hb⟩
  obtain ⟨g, cap, rfl⟩ : ∃ g cap, v = .slice (some ⟨g, 0, none⟩) 2 cap := by
    have ho := Kd.own_of_R hR
    obtain ⟨_, h | ⟨g, cap, cur, he, _⟩⟩ := ho
    · exact absurd h.2 (by decide)
    · exact ⟨g, cap, he⟩
  have hwz : w.heap.size + 1 + 1 ≤ w1.heap.size := by have := hb.size; simpa using this
  have HB0 : Aside0 (Below (w.heap.size + 2) ((w.alloc (Obj.cells #[.slice A0_0 2 c0_0, .int .i64 (-3)] 25)).alloc (Obj.cells #[.slice none 0 0, .int .i64 0] 25)) w1) := ⟨hb.mono (by simp)⟩
  have HBw : Aside0 (Below w.heap.size w w1) := ⟨(((Below.refl _ _).alloc (Nat.le_refl _) _).alloc (by simp) _).trans (HB0.out.mono (by omega))⟩
  have HO : Aside0 (w1.ownsRow (w.heap.size + 2) 3 1 (.slice (some ⟨g, 0, none⟩) 2 cap) 2 (nums .i64 [2, -4])) := ⟨own_weaken (Kd.own_of_R hR) (by simp)⟩
  have hg1 : w.heap.size + 2 ≤ g := own_base HO.out g (by simp [Value.ownBlock])
  have hg2 : g < w1.heap.size := own_lt HO.out g (by simp [Value.ownBlock])
  clear hR hb
  have hx0 : w1.cell? ⟨w.heap.size, 0, none⟩ = some (.slice A0_0 2 c0_0) := (HB0.out.cell (by simp)).trans (by go_simp)
  have hx1 : w1.cell? ⟨w.heap.size, 1, none⟩ = some (.int .i64 (-3)) := (HB0.out.cell (by simp)).trans (by go_simp)
  have hwz' : w.heap.size < w1.heap.size := by omega
  go_wp2_with fail
  obtain ⟨w2, hw2⟩ : ∃ w2, w2 = w1.alloc (Obj.cells #[.slice (some ⟨g, 0, none⟩) 2 cap, .int .i64 (-3)] 25) := ⟨_, rfl⟩
  rw [← hw2]
  have HB2 : Aside0 (Below w1.heap.size w1 w2) := ⟨by rw [hw2]; exact (Below.refl _ _).alloc (Nat.le_refl _) _⟩
  have HR2 : Aside0 (w2.heap[w1.heap.size]? = some (.cells #[.slice (some ⟨g, 0, none⟩) 2 cap, .int .i64 (-3)] 25 (0, 0))) := ⟨by rw [hw2]; exact heap_alloc_new _ _⟩
  have hw2z : w1.heap.size < w2.heap.size := by rw [hw2]; simp
  clear hw2
  have HBw2 : Aside0 (Below w.heap.size w w2) := ⟨HBw.out.trans (HB2.out.mono (by omega))⟩
  refine (linear_small.calls 9 A0_0 c0_0 [2, -4] (-3) true _ (Kd.C_below HR.out HBw2.out) hc0_0 T1.out).mono ?_
  rintro e w3 ⟨rfl, hb⟩
  have HB3 : Aside0 (Below w1.heap.size w1 w3) := ⟨HB2.out.trans (hb.mono (by omega))⟩
  have HR3 := Aside0.mk (blk_below HR2.out hb)
  have HBw3 : Aside0 (Below w.heap.size w w3) := ⟨HBw2.out.trans (hb.mono (by omega))⟩
  clear hb hx0 hx1
  have hx0 : w3.cell? ⟨w.heap.size, 0, none⟩ = some (.slice A0_0 2 c0_0) := (HB3.out.cell (by simp; omega)).trans ((HB0.out.cell (by simp)).trans (by go_simp))
  have hx1 : w3.cell? ⟨w.heap.size, 1, none⟩ = some (.int .i64 (-3)) := (HB3.out.cell (by simp; omega)).trans ((HB0.out.cell (by simp)).trans (by go_simp))
  go_wp2_with fail
  refine (linear_divisor.calls 9 A0_0 c0_0 [2, -4] (-3) 2 _ (Kd.C_below HR.out HBw3.out) hc0_0 T2.out).mono ?_
  rintro e w4 ⟨rfl, hb⟩
  have hw3z : w1.heap.size < w3.heap.size := blk_lt HR3.out
  have HB4 : Aside0 (Below w1.heap.size w1 w4) := ⟨HB3.out.trans (hb.mono (by omega))⟩
  have HR4 := Aside0.mk (blk_below HR3.out hb)
  have HBw4 : Aside0 (Below w.heap.size w w4) := ⟨HBw3.out.trans (hb.mono (by omega))⟩
  have HO4 : Aside0 (w4.ownsRow (w.heap.size + 2) 3 1 (.slice (some ⟨g, 0, none⟩) 2 cap) 2 (nums .i64 [2, -4])) := ⟨pw_own_below HO.out (HB4.out.mono (Nat.le_refl _))⟩
  have HRes : Aside0 (w4.heap[w.heap.size + 1]? = some (.cells #[.slice none 0 0, .int .i64 0] 25 (0, 0))) := ⟨(HB4.out.block _ (by omega)).trans ((HB0.out.block _ (by omega)).trans (by rw [show w.heap.size + 1 = (w.alloc (Obj.cells #[.slice A0_0 2 c0_0, .int .i64 (-3)] 25)).heap.size by simp]; exact heap_alloc_new _ _))⟩
  have hy0 : w4.cell? ⟨w1.heap.size, 0, none⟩ = some (.slice (some ⟨g, 0, none⟩) 2 cap) := (blk_cell HR4.out 0).trans rfl
  clear hb hx0 hx1 HB3 HR3 HBw3 HB2 HR2 HBw2
  go_wp2_with fail
  go_loopw [20] (fun v20 W => ∃ i : Nat, i ≤ 2 ∧ v20 = .int .i64 i ∧ Aside0 (W.ownsRow (w.heap.size + 2) 3 1 (.slice (some ⟨g, 0, none⟩) 2 cap) 2 (nums .i64 (tightRow i))) ∧ Aside0 (W.heap[w1.heap.size]? = some (.cells #[.slice (some ⟨g, 0, none⟩) 2 cap, .int .i64 (-3)] 25 (0, 0))) ∧ Aside0 (W.heap[w.heap.size + 1]? = some (.cells #[.slice none 0 0, .int .i64 0] 25 (0, 0))) ∧ Aside0 (Below w.heap.size w W)) (fun v20 _ => 2 - (intOf v20).toNat)
  case atStart => exact ⟨0, by omega, rfl, HO4, HR4, HRes, HBw4⟩
  case round =>
    obtain ⟨i, hi, rfl, HOr, HRr, HSr, HBr⟩ := hrel
    clear hy0 HO4 HR4 HRes HBw4
    have hy0 : wr.cell? ⟨w1.heap.size, 0, none⟩ = some (.slice (some ⟨g, 0, none⟩) 2 cap) := (blk_cell HRr.out 0).trans rfl
    have hy1 : wr.cell? ⟨w1.heap.size, 1, none⟩ = some (.int .i64 (-3)) := (blk_cell HRr.out 1).trans rfl
    rcases (show i = 0 ∨ i = 1 ∨ i = 2 by omega) with rfl | rfl | rfl
    · obtain ⟨hc, hf⟩ := own_at_of (enc := Value.int .i64) (d := (0 : Int)) (xs := tightRow 0) HOr.out 0 (by omega) (by omega)
      have hc' : wr.cell? ⟨g, 0, none⟩ = some (.int .i64 2) := hc
      have hf' : wr.frozen? ⟨g, 0, none⟩ = false := hf
      clear hc hf
      go_wp2_with fail
      go_roundw
      case rel =>
        refine ⟨1, by omega, by go_num, ⟨?_⟩, ⟨blk_far HRr.out (by show _ ≠ g; omega) _⟩, ⟨blk_far HSr.out (by show _ ≠ g; omega) _⟩, ⟨HBr.out.setCell (by show _ ≤ g; omega) _⟩⟩
        exact (own_put_of (enc := Value.int .i64) (xs := tightRow 0) HOr.out 0 1)
      case measure => simp [intOf]
    · obtain ⟨hc, hf⟩ := own_at_of (enc := Value.int .i64) (d := (0 : Int)) (xs := tightRow 1) HOr.out 1 (by omega) (by omega)
      have hc' : wr.cell? ⟨g, 1, none⟩ = some (.int .i64 (-4)) := hc
      have hf' : wr.frozen? ⟨g, 1, none⟩ = false := hf
      clear hc hf
      go_wp2_with fail
      go_roundw
      case rel =>
        refine ⟨2, by omega, by go_num, ⟨?_⟩, ⟨blk_far HRr.out (by show _ ≠ g; omega) _⟩, ⟨blk_far HSr.out (by show _ ≠ g; omega) _⟩, ⟨HBr.out.setCell (by show _ ≤ g; omega) _⟩⟩
        exact (own_put_of (enc := Value.int .i64) (xs := tightRow 1) HOr.out 1 (-2))
      case measure => simp [intOf]
    · have hz0 : wr.cell? ⟨w.heap.size + 1, 0, none⟩ = some (.slice none 0 0) := (blk_cell HSr.out 0).trans rfl
      have hz1 : wr.cell? ⟨w.heap.size + 1, 1, none⟩ = some (.int .i64 0) := (blk_cell HSr.out 1).trans rfl
      have hf0 := blk_frozen HSr.out 0
      have hf1 := blk_frozen HSr.out 1
      have hf2 := blk_frozen HRr.out 1
      have hne : ¬ w.heap.size + 1 = w1.heap.size := by omega
      have hne' : ¬ w1.heap.size = w.heap.size + 1 := by omega
      go_wp2_with (first | (go_at_call 29; refine (linear_floor.calls (-3) 2 (-2) _ T3.out).mono ?_; rintro e w5 ⟨rfl, ⟨nd, rfl⟩⟩))
      refine bodyPost_ret (v := .agg #[.slice (some ⟨g, 0, none⟩) 2 cap, .int .i64 (-2)]) (by simp [results, Tryd.results11, go_sem, hz0, hz1, hne]) rfl ⟨_, rfl, ?_, ?_⟩
      · refine Kd.R_of_own (enc := Value.int .i64) (xs := [1, -2]) ?_ (fun _ _ => trivial)
        refine own_setCell (own_setCell (own_setCell ?_ ?_ _) ?_ _) ?_ _
        · exact own_weaken HOr.out (by omega)
        · simp [Value.ownBlock]; omega
        · simp [Value.ownBlock]; omega
        · simp [Value.ownBlock]; omega
      · exact (((pw_below_drewN HBr.out _).setCell (by simp; omega) _).setCell (by simp) _).setCell (by simp) _
theorem linear_Tighten.calls (A0_0 : Option Addr) (c0_0 : Nat) (l0_0 : List Int) (a0_1 : Int) (r1 : List Int) (r2 : Int) (w : World) (hr0_0 : Kd.C (Kd.int .i64) w A0_0 l0_0.length l0_0) (hc0_0 : l0_0.length ≤ c0_0) (h : linear_Tighten.f l0_0 a0_1 = some (r1, r2)) :
    Calls Tryd.prog 11 #[.agg #[.slice A0_0 l0_0.length c0_0, .int .i64 a0_1]] w fun e w' => ∃ v0_ : Value, e = .returned (.agg #[v0_, .int .i64 r2]) ∧ Kd.R (Kd.int .i64) 3 w' w.heap.size (fun _ => True) v0_ r1 ∧ Below w.heap.size w w' := by
  unfold linear_Tighten.f at h
  split at h
  case isFalse => cases h
  rename_i hl
  obtain ⟨rfl, rfl⟩ := hl
  simp only [Option.some.injEq, Prod.mk.injEq] at h
  obtain ⟨rfl, rfl⟩ := h
  exact tight_any A0_0 c0_0 w hr0_0 hc0_0
end Go.Proofs.YthgnpbaldhemiaaDoor.Pr
