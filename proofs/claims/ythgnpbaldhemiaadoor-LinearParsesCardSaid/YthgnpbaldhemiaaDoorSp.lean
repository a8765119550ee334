/- What FormatRow writes, as a plain function on lists of bytes, and that linear.small tells whether all numbers are small; no conditions. -/
import Derived.Test.YthgnpbaldhemiaaDoorPx1
import Derived.Lib.ItoaLen
namespace Go.Proofs.YthgnpbaldhemiaaDoor.Pr
open Go.RowKit Go.Proofs.YthgnpbaldhemiaaDoorW.PrintWords Go.Proofs.YthgnpbaldhemiaaDoorW.PrintLast Go.Proofs.YthgnpbaldhemiaaDoorW.PrintMore
set_option linter.unusedVariables false
set_option linter.unusedSimpArgs false

/-- What stands ahead of an item. -/
def sep (first neg : Bool) : List UInt8 := if first then (if neg then [45] else []) else (if neg then [32, 45, 32] else [32, 43, 32])
theorem sep_len (f n : Bool) : (sep f n).length ≤ 3 := by cases f <;> cases n <;> simp [sep]
/-- A term without its sign. -/
def termL (c : Int) (i : Nat) : List UInt8 := if c = 1 ∨ c = -1 then 120 :: Lib.itoa i else Lib.itoa (mx c (-c)) ++ 42 :: 120 :: Lib.itoa i
def addTerm (l : List UInt8) (c : Int) (i : Nat) : List UInt8 := if c = 0 then l else l ++ sep l.isEmpty (decide (c < 0)) ++ termL c i
def termsL : List Int → Nat → List UInt8 → List UInt8
  | [], _, l => l
  | c :: cs, i, l => termsL cs (i + 1) (addTerm l c i)
def bodyL (cs : List Int) (k : Int) : List UInt8 := if k = 0 ∧ (termsL cs 0 []).isEmpty = false then termsL cs 0 [] else termsL cs 0 [] ++ sep (termsL cs 0 []).isEmpty (decide (k < 0)) ++ Lib.itoa (mx k (-k))
def rowL (cs : List Int) (k : Int) : List UInt8 := bodyL cs k ++ [32, 62, 61, 32, 48]
def inB (c : Int) : Bool := decide (-68719476736 ≤ c) && decide (c ≤ 68719476736)
def smallB (cs : List Int) (k : Int) : Bool := cs.all inB && inB k

theorem inB_iff (c : Int) : inB c = true ↔ -68719476736 ≤ c ∧ c ≤ 68719476736 := by simp [inB]
theorem mx_bound {c : Int} (h : inB c = true) : 0 ≤ mx c (-c) ∧ mx c (-c) ≤ 68719476736 := by
  have := (inB_iff c).1 h
  unfold mx
  split <;> omega
theorem itoa_len {c : Int} (h0 : 0 ≤ c) (h1 : c ≤ 68719476736) : (Lib.itoa c).length ≤ 21 := Lib.itoa_length_le c (by omega) (by omega)
theorem termL_len {c : Int} {i : Nat} (h : inB c = true) (hi : i ≤ 1000) : (termL c i).length ≤ 44 := by
  have h1 := itoa_len (mx_bound h).1 (mx_bound h).2
  have h2 := itoa_len (c := (i : Int)) (by omega) (by omega)
  unfold termL
  split
  · simp; omega
  · simp; omega
theorem addTerm_len {l : List UInt8} {c : Int} {i : Nat} (h : inB c = true) (hi : i ≤ 1000) : (addTerm l c i).length ≤ l.length + 47 := by
  unfold addTerm
  have h1 := termL_len (i := i) h hi
  have h2 := sep_len l.isEmpty (decide (c < 0))
  split
  · omega
  · simp; omega
theorem termsL_len : ∀ (cs : List Int) (i : Nat) (l : List UInt8), cs.all inB = true → i + cs.length ≤ 1000 → (termsL cs i l).length ≤ l.length + 47 * cs.length
  | [], _, l, _, _ => by simp [termsL]
  | c :: cs, i, l, h, hi => by
    simp only [List.all_cons, Bool.and_eq_true] at h
    have := termsL_len cs (i + 1) (addTerm l c i) h.2 (by simp at hi; omega)
    have h2 := addTerm_len (l := l) (i := i) h.1 (by simp at hi; omega)
    simp only [termsL, List.length_cons]
    omega
theorem termsL_append : ∀ (xs ys : List Int) (i : Nat) (l : List UInt8), termsL (xs ++ ys) i l = termsL ys (i + xs.length) (termsL xs i l)
  | [], ys, i, l => by simp [termsL]
  | x :: xs, ys, i, l => by
    simp only [List.cons_append, termsL, List.length_cons]
    rw [termsL_append xs ys]
    congr 1
    omega
theorem termsL_snoc (cs : List Int) (i : Nat) (h : i < cs.length) : termsL (cs.take (i + 1)) 0 [] = addTerm (termsL (cs.take i) 0 []) (rd cs i) i := by
  rw [List.take_succ_eq_append_getElem h, termsL_append]
  have : (cs.take i).length = i := by simp; omega
  simp [termsL, this, rd, h]

theorem within_eq (c : Int) : linear_within.f c = some (inB c) := by
  unfold linear_within.f inB
  split
  · rename_i h; simp [h]
  · rename_i h; simp [h]
theorem wrap_idx {i n : Int} (h0 : 0 ≤ i) (h1 : i < n) (hn : n ≤ 9223372036854775807) : wrap64 (i + 1) = i + 1 := IntWalk.wrap64_in _ (by omega)
theorem small_loop (cs : List Int) (a : Int) (hn : cs.length ≤ 9223372036854775807) : ∀ (d i : Nat), i + d = cs.length → linear_small.l0 (d + 1) cs (cs.length : Int) (i : Int) cs a = some ((cs.drop i).all inB && inB a)
  | 0, i, h => by
    have : cs.drop i = [] := List.drop_eq_nil_of_le (by omega)
    simp only [linear_small.l0]
    rw [if_neg (by omega), within_eq, this]
    simp
  | d + 1, i, h => by
    have hi : i < cs.length := by omega
    have ih := small_loop cs a hn d (i + 1) (by omega)
    simp only [linear_small.l0]
    rw [if_pos (by omega), if_pos (by omega), if_pos (by omega), within_eq, wrap_idx (n := cs.length) (by omega) (by omega) (by omega)]
    rw [List.drop_eq_getElem_cons hi]
    have hr : rd cs (i : Int) = cs[i] := by simp [rd, hi]
    simp only [Option.bind_some, hr, List.all_cons]
    cases hb : inB cs[i]
    · simp
    · simp only [if_true, Bool.true_and]
      exact ih
theorem small_eq (cs : List Int) (a : Int) (hn : cs.length ≤ 9223372036854775807) : linear_small.f (cs.length + 1) cs a = some (smallB cs a) := by
  unfold linear_small.f
  have := small_loop cs a hn cs.length 0 (by omega)
  simpa [smallB] using this
end Go.Proofs.YthgnpbaldhemiaaDoor.Pr
