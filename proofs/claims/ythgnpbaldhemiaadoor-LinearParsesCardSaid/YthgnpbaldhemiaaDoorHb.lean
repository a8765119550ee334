/- The contract of linear.write: what it adds to a builder; conditions: the theorem's own premises. -/
import Derived.Test.YthgnpbaldhemiaaDoorHa
import Derived.Test.YthgnpbaldhemiaaDoorSp
import Derived.Deep.RegionHeld3
import Derived.Lib.AppendIntMem
namespace Go.Proofs.YthgnpbaldhemiaaDoor.Pr
open Go.RowKit Go.Proofs.YthgnpbaldhemiaaDoorW.PrintWords Go.Proofs.YthgnpbaldhemiaaDoorW.PrintLast Go.Proofs.YthgnpbaldhemiaaDoorW.PrintMore
set_option linter.unusedVariables false
set_option linter.unusedSimpArgs false

theorem len_any (B b : Nat) (l : List UInt8) (w : World) (h : Lib.IsBuilder 55 5 B b (Lib.byteCells l) w) (n : Int) (hn : (l.length : Int) = n) :
    Calls Tryd.prog 25 #[.pointer (some ⟨b, 0, none⟩)] w fun e w' => e = .returned (.int .i64 n) ∧ w = w' :=
  (Tryd.Builder_Len B b _ w h).mono fun e w' ⟨h1, h2⟩ => ⟨by rw [h1, Lib.byteCells_length, hn], h2.symm⟩
theorem wr_any (B b : Nat) (l : List UInt8) (s : ByteArray) (w : World) (h : Lib.IsBuilder 55 5 B b (Lib.byteCells l) w) (hlen : l.length + s.size ≤ 140737488355328) (hBw : B ≤ w.heap.size) :
    Calls Tryd.prog 44 #[.pointer (some ⟨b, 0, none⟩), .string s] w fun e w' => e = .returned (.tuple #[.int .i64 s.size, .nilIface]) ∧ Lib.IsBuilder 55 5 B b (Lib.byteCells (l ++ s.data.toList)) w' ∧ Below B w w' :=
  (Tryd.Builder_WriteString B b _ s w h (by rw [Lib.byteCells_length]; exact hlen) hBw).mono fun e w' ⟨h1, h2, h3⟩ => ⟨h1, Or.inr (by rw [show Lib.byteCells (l ++ s.data.toList) = Lib.byteCells l ++ Lib.strCells s by simp [Lib.byteCells, Lib.strCells]]; exact h2), h3⟩

set_option maxHeartbeats 1000000 in
theorem write_any (B b : Nat) (l : List UInt8) (neg : Bool) (s : ByteArray) (w : World) (h : Lib.IsBuilder 55 5 B b (Lib.byteCells l) w) (hlen : l.length + s.size ≤ 140737488355000) (hBw : B ≤ w.heap.size) :
    Calls Tryd.prog 24 #[.pointer (some ⟨b, 0, none⟩), .bool neg, .string s] w fun e w' => e = .returned (.tuple #[]) ∧ Lib.IsBuilder 55 5 B b (Lib.byteCells (l ++ sep l.isEmpty neg ++ s.data.toList)) w' ∧ Below B w w' := by
  have HH := Aside0.mk h
  clear h
  cases l with
  | nil =>
    have hn : Aside0 ((([] : List UInt8).length : Int) = 0) := ⟨rfl⟩
    cases neg
    · go_enter Tryd.func24, Tryd.ntmps24
      go_wp2_with (first | (go_at_call 25; refine (len_any B b [] _ HH.out 0 hn.out).mono ?_; rintro e w' ⟨rfl, rfl⟩) | (go_at_call 44; refine (wr_any B b [] s _ HH.out (by simp; omega) hBw).mono ?_; rintro e w1 ⟨rfl, hI, hb⟩))
      go_end0
      exact ⟨rfl, hI, hb⟩
    · go_enter Tryd.func24, Tryd.ntmps24
      go_wp2_with (first | (go_at_call 25; refine (len_any B b [] _ HH.out 0 hn.out).mono ?_; rintro e w' ⟨rfl, rfl⟩))
      refine (wr_any B b [] ⟨#[45]⟩ _ HH.out (by show 0 + 1 ≤ _; omega) hBw).mono ?_
      rintro e w1 ⟨rfl, hI, hb⟩
      have HI := Aside0.mk hI
      have HB := Aside0.mk hb
      clear hI hb
      go_wp2_with fail
      refine (wr_any B b _ s _ HI.out (by simp; omega) (Nat.le_trans hBw HB.out.size)).mono ?_
      rintro e w2 ⟨rfl, hI, hb⟩
      have HI2 := Aside0.mk hI
      have HB2 := Aside0.mk hb
      clear hI hb
      go_wp2
      go_end0
      exact ⟨rfl, HI2.out, HB.out.trans HB2.out⟩
  | cons c l =>
    have hn : Aside0 ((((c :: l)).length : Int) = (l.length : Int) + 1) := ⟨by simp⟩
    have hp : 0 < (l.length : Int) + 1 := by omega
    have hz : (((l.length : Int) + 1) == 0) = false := by rw [beq_eq_false_iff_ne]; omega
    cases neg
    · go_enter Tryd.func24, Tryd.ntmps24
      go_wp2_with (first | (go_at_call 25; refine (len_any B b (c :: l) _ HH.out _ hn.out).mono ?_; rintro e w' ⟨rfl, rfl⟩))
      refine (wr_any B b (c :: l) ⟨#[32, 43, 32]⟩ _ HH.out (by show _ + 3 ≤ _; simp at hlen ⊢; omega) hBw).mono ?_
      rintro e w1 ⟨rfl, hI, hb⟩
      have HI := Aside0.mk hI
      have HB := Aside0.mk hb
      clear hI hb
      go_wp2_with fail
      refine (wr_any B b _ s _ HI.out (by simp at hlen ⊢; omega) (Nat.le_trans hBw HB.out.size)).mono ?_
      rintro e w2 ⟨rfl, hI, hb⟩
      have HI2 := Aside0.mk hI
      have HB2 := Aside0.mk hb
      clear hI hb
      go_wp2
      go_end0
      exact ⟨rfl, HI2.out, HB.out.trans HB2.out⟩
    · go_enter Tryd.func24, Tryd.ntmps24
      go_wp2_with (first | (go_at_call 25; refine (len_any B b (c :: l) _ HH.out _ hn.out).mono ?_; rintro e w' ⟨rfl, rfl⟩))
      refine (wr_any B b (c :: l) ⟨#[32, 45, 32]⟩ _ HH.out (by show _ + 3 ≤ _; simp at hlen ⊢; omega) hBw).mono ?_
      rintro e w1 ⟨rfl, hI, hb⟩
      have HI := Aside0.mk hI
      have HB := Aside0.mk hb
      clear hI hb
      go_wp2_with fail
      refine (wr_any B b _ s _ HI.out (by simp at hlen ⊢; omega) (Nat.le_trans hBw HB.out.size)).mono ?_
      rintro e w2 ⟨rfl, hI, hb⟩
      have HI2 := Aside0.mk hI
      have HB2 := Aside0.mk hb
      clear hI hb
      go_wp2
      go_end0
      exact ⟨rfl, HI2.out, HB.out.trans HB2.out⟩

/-- strconv.Itoa: some string of these bytes, not long. -/
theorem itoa_any (n : Int) (h0 : -9223372036854775808 ≤ n) (h1 : n ≤ 9223372036854775807) (w : World) (hG : Glob w) :
    Calls Tryd.prog 23 #[.int .i64 n] w fun e w' => ∃ s : ByteArray, e = .returned (.string s) ∧ Aside0 (s.data.toList = Lib.itoa n) ∧ s.size ≤ 21 ∧ Below w.heap.size w w' :=
  (Tryd.strconv_Itoa n h0 h1 w hG.pow).mono fun e w' ⟨h2, k, os, h3⟩ => ⟨_, h2, ⟨by simp⟩, by
    have := Lib.itoa_length_le n h0 h1
    show (Lib.itoa n).toArray.size ≤ 21
    simpa using this, by rw [h3]; exact Lib.below_grow _ _ (Nat.le_refl _) k os⟩
end Go.Proofs.YthgnpbaldhemiaaDoor.Pr
