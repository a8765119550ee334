/- The plain law of LinearTextBack: with rounds enough, the printed function answers true. -/
import Derived.Test.YthgnpbaldhemiaaDoorRt
import Derived.Test.YthgnpbaldhemiaaDoorPx6
namespace Go.Proofs.YthgnpbaldhemiaaDoor.Pr
open Go.RowKit Go.Proofs.YthgnpbaldhemiaaDoorW.PrintWords Go.Proofs.YthgnpbaldhemiaaDoorW.PrintLast Go.Proofs.YthgnpbaldhemiaaDoorW.PrintMore

theorem known_true : familychecklaw01_known.f 40 = some true := by decide +kernel
theorem known_at (k : Nat) (h : 40 ≤ k) : familychecklaw01_known.f k = some true := at_rounds familychecklaw01_known.mono h known_true

theorem compare_self (l : List Int) (hn : l.length ≤ 1000) : ∀ (d i k : Nat), i + d = l.length → 2 * d + 2 ≤ k → familycheckref01_CompareInts.l0 k l l (i : Int) = some 0
  | 0, i, 0, _, hk => by omega
  | 0, i, 1, _, hk => by omega
  | 0, i, k + 2, h, _ => by
    have e : ¬ ((i : Int) < (l.length : Int)) := by omega
    simp [familycheckref01_CompareInts.l0, familycheckref01_CompareInts.j1, e]
  | d + 1, i, 0, _, hk => by omega
  | d + 1, i, 1, _, hk => by omega
  | d + 1, i, k + 2, h, hk => by
    have e : ((i : Int) < (l.length : Int)) := by omega
    have ih := compare_self l hn d (i + 1) k (by omega) (by omega)
    rw [familycheckref01_CompareInts.l0, if_pos e, decide_eq_true e, familycheckref01_CompareInts.j1, if_pos rfl, if_pos (by omega), if_pos e, if_pos e, if_neg (by omega), if_neg (by omega), wrap_idx (n := (l.length : Int)) (by omega) e (by omega)]
    exact ih
theorem same_self (l : List Int) (c : Int) (hn : l.length ≤ 1000) (k : Nat) (hk : 2 * l.length + 2 ≤ k) : familycheckref01_SameRow.f k l c l c = some true := by
  have h := compare_self l hn l.length 0 k (by omega) hk
  unfold familycheckref01_SameRow.f familycheckref01_SameInts.f familycheckref01_CompareInts.f
  rw [if_pos rfl, show (0 : Int) = ((0 : Nat) : Int) from rfl, h]
  rfl

theorem back_one (v : Int) (t : ByteArray) (ht : t.size ≤ 9223372036854775807) : familychecklaw01_LinearTextBack.j1 300 v t = some true := by
  rw [familychecklaw01_LinearTextBack.j1]
  rcases hp : parseF v t.data.toList with ⟨cs, k, e⟩
  have h1 : linear_ParseRow.f v t = some (cs, k, e) := by unfold linear_ParseRow.f; rw [if_pos ht, hp]
  rw [h1]
  simp only [Option.bind_some]
  by_cases he : e = 0
  · subst he
    rw [if_pos rfl]
    obtain ⟨a1, a2, a3, a4⟩ := parse_back hp
    have h2 : linear_FormatRow.f cs k = some (⟨(rowL cs k).toArray⟩, 0) := by unfold linear_FormatRow.f; rw [if_neg (by omega), if_pos a3]
    rw [h2]
    simp only [Option.bind_some, if_true]
    rw [if_pos (show (⟨(rowL cs k).toArray⟩ : ByteArray).toList = t.toList by rw [a4])]
    rw [if_pos a1, known_at 299 (by decide)]
    rfl
  · obtain ⟨rfl, rfl⟩ := parse_err hp he
    rw [if_neg he, if_pos (show ((([] : List Int).length : Int) = 0) from rfl), if_pos (show (0 : Int) = 0 from rfl), known_at 299 (by decide)]
    rfl

theorem linear_law (l : List Int) (c v : Int) (t : ByteArray) (ht : t.size ≤ 9223372036854775807) : familychecklaw01_LinearTextBack.f 301 l c v t = some true := by
  unfold familychecklaw01_LinearTextBack.f familychecklaw01_long.f
  simp only [Option.bind_some]
  have hk : familychecklaw01_LinearTextBack.j0 301 v t true l c = some true := by
    rw [familychecklaw01_LinearTextBack.j0, if_pos rfl, known_at 300 (by decide)]; rfl
  by_cases hl : (l.length : Int) > 200
  · rw [if_pos (by simpa using hl)]; exact hk
  rw [if_neg (by simpa using hl)]
  by_cases h5 : (t.size : Int) > 5000
  · rw [decide_eq_true h5]; exact hk
  rw [decide_eq_false h5, familychecklaw01_LinearTextBack.j0, if_neg (by decide)]
  by_cases h96 : l.length > 96
  · have h2 : linear_FormatRow.f l c = some (⟨#[]⟩, 1) := by unfold linear_FormatRow.f; rw [if_pos h96]
    rw [h2]
    simp only [Option.bind_some]
    rw [if_neg (by decide)]
    exact back_one v t ht
  by_cases hs : smallB l c = true
  · have h2 : linear_FormatRow.f l c = some (⟨(rowL l c).toArray⟩, 0) := by unfold linear_FormatRow.f; rw [if_neg h96, if_pos hs]
    rw [h2]
    simp only [Option.bind_some, if_true]
    have hn : l.length ≤ 96 := by omega
    have h3 : linear_ParseRow.f (l.length : Int) ⟨(rowL l c).toArray⟩ = some (l, c, 0) := by
      unfold linear_ParseRow.f
      rw [if_pos (by have := rowL_len hn hs; show (rowL l c).toArray.size ≤ _; rw [List.size_toArray]; omega)]
      show some (parseF _ (rowL l c)) = _
      rw [parse_row hn hs]
    rw [h3]
    simp only [Option.bind_some, if_true]
    rw [same_self l c (by omega) 300 (by omega)]
    simp only [Option.bind_some, if_true]
    exact back_one v t ht
  · have h2 : linear_FormatRow.f l c = some (⟨#[]⟩, 4) := by unfold linear_FormatRow.f; rw [if_neg h96, if_neg hs]
    rw [h2]
    simp only [Option.bind_some]
    rw [if_neg (by decide)]
    exact back_one v t ht
#print axioms linear_law
end Go.Proofs.YthgnpbaldhemiaaDoor.Pr
