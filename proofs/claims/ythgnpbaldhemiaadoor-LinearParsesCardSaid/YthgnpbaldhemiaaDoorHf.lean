/- The contract of linear.ParseRow; conditions: what the library's variables hold (Glob). -/
import Derived.Test.YthgnpbaldhemiaaDoorHe
namespace Go.Proofs.YthgnpbaldhemiaaDoor.Pr
open Go.RowKit Go.Proofs.YthgnpbaldhemiaaDoorW.PrintWords Go.Proofs.YthgnpbaldhemiaaDoorW.PrintLast Go.Proofs.YthgnpbaldhemiaaDoorW.PrintMore
set_option linter.unusedVariables false
set_option linter.unusedSimpArgs false

/-- The loop over the words: ev: an item is next. -/
def loopF : List (List UInt8) → Bool → Int → List Int → Int → Option (List Int × Int)
  | [], _, _, cs, k => some (cs, k)
  | w :: ws, true, sign, cs, k => (itemF cs k sign w).bind fun p => loopF ws false sign p.1 p.2
  | w :: ws, false, sign, cs, k => if w = [43] then loopF ws true 1 cs k else if w = [45] then loopF ws true (-1) cs k else none
def endS : List UInt8 := [32, 62, 61, 32, 48]
/-- The words and the first sign. -/
def bodyOf (t : List UInt8) : List UInt8 := if Lib.hasPrefix (Lib.trimSuffix t endS) [45] then Lib.trimPrefix (Lib.trimSuffix t endS) [45] else Lib.trimSuffix t endS
def signOf (t : List UInt8) : Int := if Lib.hasPrefix (Lib.trimSuffix t endS) [45] then -1 else 1
def wordsOf (t : List UInt8) : List (List UInt8) := Lib.split (bodyOf t) [32]
def readF (n : Nat) (t : List UInt8) : Option (List Int × Int) := loopF (wordsOf t) true (signOf t) (List.replicate n 0) 0
def lastF (t : List UInt8) (o : Option (List Int × Int)) : List Int × Int × Int :=
  match o with
  | none => ([], 0, 3)
  | some (cs, k) => if smallB cs k = true ∧ rowL cs k = t then (cs, k, 0) else ([], 0, 3)
def parseF (v : Int) (t : List UInt8) : List Int × Int × Int :=
  if v < 0 ∨ 96 < v then ([], 0, 1) else if 4000 < t.length then ([], 0, 4) else if Lib.hasSuffix t endS then lastF t (readF v.toNat t) else ([], 0, 3)
def linear_ParseRow.f (a0 : Int) (a1 : ByteArray) : Option (List Int × Int × Int) := if a1.size ≤ 9223372036854775807 then some (parseF a0 a1.data.toList) else none

/-- What ParseRow returns and leaves. -/
def RowPost (w : World) (r : List Int × Int × Int) (e : Ending) (w' : World) : Prop :=
  ∃ v0_ : Value, e = .returned (.tuple #[.agg #[v0_, .int .i64 r.2.1], .int .i64 r.2.2]) ∧ Kd.R (Kd.int .i64) 3 w' w.heap.size (fun _ => True) v0_ r.1 ∧ Below w.heap.size w w'
theorem RowPost.zero {w w' : World} {r : List Int × Int × Int} {c : Int} (h : r = ([], 0, c)) (hb : Below w.heap.size w w') : RowPost w r (.returned (.tuple #[.agg #[.slice none 0 0, .int .i64 0], .int .i64 c])) w' := by
  subst h
  exact ⟨_, rfl, Kd.R_nil _ _ _ _ _, hb⟩

set_option maxHeartbeats 2000000 in
set_option maxRecDepth 100000 in
theorem parse_low (v : Int) (s : ByteArray) (w : World) (hv : v < 0) :
    Calls Tryd.prog 6 #[.int .i64 v, .string s] w (RowPost w (parseF v s.data.toList)) := by
  go_enter Tryd.func6, Tryd.ntmps6
  go_wp2
  refine bodyPost_ret (v := .tuple #[.agg #[.slice none 0 0, .int .i64 0], .int .i64 1]) (by simp [results, Tryd.results6, go_sem]) rfl ?_
  refine RowPost.zero (by simp [parseF, hv]) ?_
  exact ((Below.refl _ _).alloc (Nat.le_refl _) _)
set_option maxHeartbeats 2000000 in
set_option maxRecDepth 100000 in
theorem parse_high (v : Int) (s : ByteArray) (w : World) (hv : 96 < v) :
    Calls Tryd.prog 6 #[.int .i64 v, .string s] w (RowPost w (parseF v s.data.toList)) := by
  have h0 : 0 ≤ v := by omega
  go_enter Tryd.func6, Tryd.ntmps6
  go_wp2
  refine bodyPost_ret (v := .tuple #[.agg #[.slice none 0 0, .int .i64 0], .int .i64 1]) (by simp [results, Tryd.results6, go_sem]) rfl ?_
  refine RowPost.zero (by simp [parseF, hv]) ?_
  exact ((Below.refl _ _).alloc (Nat.le_refl _) _)
set_option maxHeartbeats 2000000 in
set_option maxRecDepth 100000 in
theorem parse_large (v : Int) (s : ByteArray) (w : World) (h0 : 0 ≤ v) (h1 : v ≤ 96) (hs : 4000 < s.size) (hs2 : s.size ≤ 9223372036854775807) :
    Calls Tryd.prog 6 #[.int .i64 v, .string s] w (RowPost w (parseF v s.data.toList)) := by
  have h2 : (4000 : Int) < (s.size : Int) := by omega
  have hl : s.data.toList.length = s.size := by simp
  have HP : Aside0 (parseF v s.data.toList = ([], 0, 4)) := ⟨by simp only [parseF]; rw [if_neg (by omega), if_pos (by omega)]⟩
  clear hl
  go_enter Tryd.func6, Tryd.ntmps6
  go_wp2
  refine bodyPost_ret (v := .tuple #[.agg #[.slice none 0 0, .int .i64 0], .int .i64 4]) (by simp [results, Tryd.results6, go_sem]) rfl ?_
  refine RowPost.zero HP.out ?_
  exact ((Below.refl _ _).alloc (Nat.le_refl _) _)
end Go.Proofs.YthgnpbaldhemiaaDoor.Pr
