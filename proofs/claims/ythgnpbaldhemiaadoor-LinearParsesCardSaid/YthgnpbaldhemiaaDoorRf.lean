/- The plain law of the specification's FormatRow: its text is rowL's; conditions: each theorem's own premises. -/
import Derived.Test.YthgnpbaldhemiaaDoorRt
import Derived.Test.YthgnpbaldhemiaaDoorHc
import Derived.Test.YthgnpbaldhemiaaDoorPx4
namespace Go.Proofs.YthgnpbaldhemiaaDoor.Pr
open Go.RowKit Go.Proofs.YthgnpbaldhemiaaDoorW.PrintWords Go.Proofs.YthgnpbaldhemiaaDoorW.PrintLast Go.Proofs.YthgnpbaldhemiaaDoorW.PrintMore
set_option linter.unusedVariables false
set_option linter.unusedSimpArgs false

abbrev S (l : List UInt8) : ByteArray := ⟨l.toArray⟩
theorem S_size (l : List UInt8) : (S l).size = l.length := by show l.toArray.size = _; simp
theorem S_app (a b : List UInt8) : S a ++ S b = S (a ++ b) := by
  apply ByteArray.ext
  simp [S]
theorem S_list (l : List UInt8) : (S l).toList = l := by rw [ByteArray.toList_eq]
theorem ref_within (c : Int) : familycheckref01_within.f c (-68719476736) 68719476736 = some (inB c) := by
  unfold familycheckref01_within.f inB
  by_cases h : c ≥ -68719476736
  · rw [if_pos h, decide_eq_true (show -68719476736 ≤ c by omega)]; simp
  · rw [if_neg h, decide_eq_false (show ¬ -68719476736 ≤ c by omega)]; simp
theorem ref_small_loop (cs : List Int) (a : Int) (hn : cs.length ≤ 1000) : ∀ (d i : Nat), i + d = cs.length → familycheckref01_Small.l0 (d + 1) (i : Int) cs a = some ((cs.drop i).all inB && inB a)
  | 0, i, h => by
    rw [familycheckref01_Small.l0, if_neg (by omega), ref_within, List.drop_eq_nil_of_le (by omega)]
    simp
  | d + 1, i, h => by
    have hi : i < cs.length := by omega
    have ih := ref_small_loop cs a hn d (i + 1) (by omega)
    rw [familycheckref01_Small.l0, if_pos (by omega), if_pos (by omega), ref_within]
    rw [List.drop_eq_getElem_cons hi, List.all_cons]
    have e : rd cs (i : Int) = cs[i] := by simp [rd, hi]
    rw [e]
    simp only [Option.bind_some]
    cases hb : inB cs[i]
    · simp only [Bool.false_and, Bool.false_eq_true, if_false]
    · simp only [Bool.true_and, if_true, wrap_idx (n := (cs.length : Int)) (show (0 : Int) ≤ i by omega) (by omega) (by omega)]
      rw [show ((i : Int) + 1) = ((i + 1 : Nat) : Int) by omega, ih]
theorem ref_small (cs : List Int) (a : Int) (hn : cs.length ≤ 1000) (k : Nat) (hk : cs.length + 1 ≤ k) : familycheckref01_Small.f k cs a = some (smallB cs a) := by
  refine at_rounds (familycheckref01_Small.mono cs a) hk ?_
  have := ref_small_loop cs a hn cs.length 0 (by omega)
  simpa [familycheckref01_Small.f, smallB] using this
theorem str_one (n : Nat) (h : n < 256) : strOfNums [(n : Int)] = S [UInt8.ofNat n] := by
  apply ByteArray.ext
  simp [strOfNums, S]
theorem ref_digits : ∀ (k u : Nat) (l : List UInt8), Lib.nDigits u ≤ k → u ≤ 68719476736 → l.length ≤ 100 → Lib.nDigits u + l.length ≤ 100 → familycheckref01_digits.l0 k (u : Int) (S l) = some (S (Lib.decDigits u ++ l))
  | 0, u, l, hk, _, _, _ => by
    exfalso
    by_cases hs : u < 10
    · rw [Lib.nDigits_small hs] at hk; omega
    · rw [Lib.nDigits_big hs] at hk; omega
  | k + 1, u, l, hk, hu, hl, hx => by
    by_cases hs : u < 10
    · rw [familycheckref01_digits.l0, if_neg (by omega)]
      simp only [Option.bind_some]
      have e : wrap64 (48 + (u : Int)) % 256 = ((48 + u : Nat) : Int) := by
        rw [IntWalk.wrap64_in _ (by omega), Int.emod_eq_of_lt (by omega) (by omega)]; omega
      rw [e, str_one _ (by omega), if_pos (by rw [S_size, S_size]; simp; omega), S_app, Lib.decDigits, dif_pos hs]
    · rw [Lib.nDigits_big hs] at hk hx
      have ih := ref_digits k (u / 10) (UInt8.ofNat (48 + u % 10) :: l) (by omega) (by omega) (by simp; omega) (by simp; omega)
      rw [familycheckref01_digits.l0, if_pos (by omega)]
      simp only [Option.bind_some]
      have e : wrap64 (48 + Int.tmod (u : Int) 10) % 256 = ((48 + u % 10 : Nat) : Int) := by
        rw [show Int.tmod (u : Int) 10 = ((u % 10 : Nat) : Int) from rfl, IntWalk.wrap64_in _ (by omega), Int.emod_eq_of_lt (by omega) (by omega)]; omega
      have e2 : wrap64 (Int.tdiv (u : Int) 10) = ((u / 10 : Nat) : Int) := by
        rw [show Int.tdiv (u : Int) 10 = ((u / 10 : Nat) : Int) from rfl, IntWalk.wrap64_in _ (by omega)]
      rw [e, str_one _ (by omega), if_pos (by rw [S_size, S_size]; simp; omega), S_app, e2]
      rw [show [UInt8.ofNat (48 + u % 10)] ++ l = UInt8.ofNat (48 + u % 10) :: l from rfl, ih]
      have e3 : Lib.decDigits u = Lib.decDigits (u / 10) ++ [UInt8.ofNat (48 + u % 10)] := by rw [Lib.decDigits, dif_neg hs]
      rw [e3, List.append_assoc]
      rfl
theorem ref_itoa {n : Int} (h0 : 0 ≤ n) (h1 : n ≤ 68719476736) (k : Nat) (hk : 11 ≤ k) : familycheckref01_digits.f k n = some (S (Lib.itoa n)) := by
  have hd : Lib.nDigits n.toNat ≤ 11 := nDigits_le 11 _ (by omega) (by omega)
  have := ref_digits k n.toNat [] (by omega) (by omega) (by simp) (by simp; omega)
  rw [show ((n.toNat : Nat) : Int) = n by omega, List.append_nil] at this
  unfold familycheckref01_digits.f
  rw [itoa_nn h0, ← this]
theorem ref_abs {c : Int} (h : inB c = true) : familycheckref01_abs.f c = some (mx c (-c)) := by
  have := (inB_iff c).1 h
  unfold familycheckref01_abs.f mx
  by_cases hc : c < 0
  · rw [if_pos hc, if_pos (by omega), IntWalk.wrap64_in _ (by omega)]
  · rw [if_neg hc]
    by_cases h2 : c < -c
    · omega
    · rw [if_neg h2]
def restText (c : Int) (rest : List UInt8) : List UInt8 := if rest.isEmpty then Lib.itoa (mx c (-c)) else if c = 1 ∨ c = -1 then rest else Lib.itoa (mx c (-c)) ++ 42 :: rest
theorem ref_item (first : Bool) {c : Int} (h : inB c = true) (rest : List UInt8) (hr : rest.length ≤ 100) (k : Nat) (hk : 20 ≤ k) : familycheckref01_item.f k first c (S rest) = some (S (sep first (decide (c < 0)) ++ restText c rest)) := by
  have hb := mx_bound h
  have hlen := itoa_len11 hb.1 hb.2
  have hone : (mx c (-c) == 1) = true ↔ (c = 1 ∨ c = -1) := by
    rw [beq_iff_eq]
    unfold mx
    split <;> omega
  have key : ∀ p : List UInt8, p.length ≤ 3 → familycheckref01_item.j0 k c (S rest) (S p) = some (S (p ++ restText c rest)) := by
    intro p hp
    obtain ⟨k, rfl⟩ : ∃ j, k = j + 2 := ⟨k - 2, by omega⟩
    rw [familycheckref01_item.j0, S_list]
    have base : familycheckref01_item.j1 (k + 1) c (S rest) (S p) false = some (S (p ++ (if rest.isEmpty then Lib.itoa (mx c (-c)) else Lib.itoa (mx c (-c)) ++ 42 :: rest))) := by
      rw [familycheckref01_item.j1, if_neg (by decide), ref_abs h]
      simp only [Option.bind_some]
      rw [ref_itoa hb.1 hb.2 k (by omega)]
      simp only [Option.bind_some]
      rw [if_pos (by rw [S_size, S_size]; omega), S_list]
      by_cases he : rest.isEmpty = true
      · rw [if_pos he, if_pos he, S_app]
      · rw [if_neg he, if_neg he]
        rw [S_app, show (⟨#[42]⟩ : ByteArray) = S [42] from rfl, S_app, S_app, if_pos (by rw [S_size]; simp; omega), if_pos (by rw [S_size, S_size]; simp; omega)]
        simp
    by_cases he : rest.isEmpty = true
    · rw [if_pos he, base]
      simp [restText, he]
    · rw [if_neg he, ref_abs h]
      simp only [Option.bind_some]
      by_cases h1 : c = 1 ∨ c = -1
      · rw [hone.2 h1, familycheckref01_item.j1, if_pos rfl, if_pos (by rw [S_size, S_size]; omega), S_app]
        simp [restText, he, h1]
      · rw [show (mx c (-c) == 1) = false by cases hq : (mx c (-c) == 1) with | false => rfl | true => exact absurd (hone.1 hq) h1, base]
        simp [restText, he, h1]
  unfold familycheckref01_item.f
  cases first
  · rw [if_neg (by decide)]
    by_cases hc : c < 0
    · rw [if_pos hc, show (⟨#[32, 45, 32]⟩ : ByteArray) = S [32, 45, 32] from rfl, key _ (by simp)]
      simp [sep, hc]
    · rw [if_neg hc, show (⟨#[32, 43, 32]⟩ : ByteArray) = S [32, 43, 32] from rfl, key _ (by simp)]
      simp [sep, hc]
  · rw [if_pos rfl]
    by_cases hc : c < 0
    · rw [if_pos hc, show (⟨#[45]⟩ : ByteArray) = S [45] from rfl, key _ (by simp)]
      simp [sep, hc]
    · rw [if_neg hc, show (⟨#[]⟩ : ByteArray) = S [] from rfl, key _ (by simp)]
      simp [sep, hc]
theorem ref_format_loop (cs : List Int) (a : Int) (hn : cs.length ≤ 96) (hs : smallB cs a = true) : ∀ (d i : Nat), i + d = cs.length → familycheckref01_FormatRow.l0 (d + 30) (S (termsL (cs.take i) 0 [])) (i : Int) cs a = some (S (rowL cs a), 0) := by
  have hall : cs.all inB = true := by simp only [smallB, Bool.and_eq_true] at hs; exact hs.1
  have ha : inB a = true := by simp only [smallB, Bool.and_eq_true] at hs; exact hs.2
  have htl : ∀ i, (termsL (cs.take i) 0 []).length ≤ 4700 := by
    intro i
    have h1 := termsL_len (cs.take i) 0 [] (List.all_eq_true.2 fun x hx => List.all_eq_true.1 hall x (List.mem_of_mem_take hx)) (by simp; omega)
    have h2 : (cs.take i).length ≤ 96 := by simp; omega
    simp only [List.length_nil] at h1
    omega
  have hb := mx_bound ha
  have hlen := itoa_len11 hb.1 hb.2
  have hsep := sep_len
  intro d
  induction d with
  | zero =>
    intro i h
    have hti : cs.take i = cs := List.take_of_length_le (by omega)
    have hl := htl i
    rw [hti] at hl ⊢
    rw [familycheckref01_FormatRow.l0, if_neg (by omega), S_list]
    have e0 : (⟨#[32, 62, 61, 32, 48]⟩ : ByteArray) = S [32, 62, 61, 32, 48] := rfl
    have hit := ref_item (termsL cs 0 []).isEmpty ha [] (by simp) 29 (by omega)
    have hit2 := ref_item true ha [] (by simp) 29 (by omega)
    rw [show (⟨#[]⟩ : ByteArray) = S [] from rfl]
    have hs3 := hsep (termsL cs 0 []).isEmpty (decide (a < 0))
    by_cases hk : a = 0
    · rw [if_pos hk]
      by_cases he : (termsL cs 0 []).isEmpty = true
      · rw [if_pos he, hit2]
        simp only [Option.bind_some]
        rw [S_app, if_pos (by rw [S_size, S_size]; simp [restText]; rw [he] at hs3; simp only [List.length_append] at *; omega), if_pos (by rw [S_size]; simp [restText]; rw [he] at hs3; omega), e0, S_app]
        unfold rowL bodyL
        rw [if_neg (by simp [he]), he]
        simp [restText]
      · rw [if_neg he, if_pos (by rw [S_size]; omega), e0, S_app]
        unfold rowL bodyL
        rw [if_pos ⟨hk, by simpa using he⟩]
    · rw [if_neg hk, hit]
      simp only [Option.bind_some]
      rw [S_app, if_pos (by rw [S_size, S_size]; simp only [restText, List.isEmpty_nil, if_true, List.length_append]; omega), if_pos (by rw [S_size]; simp only [restText, List.isEmpty_nil, if_true, List.length_append]; omega), e0, S_app]
      unfold rowL bodyL
      rw [if_neg (by simp [hk])]
      simp [restText]
  | succ d ih =>
    intro i h
    have hi : i < cs.length := by omega
    have ih := ih (i + 1) (by omega)
    have hw : wrap64 ((i : Int) + 1) = ((i + 1 : Nat) : Int) := by rw [wrap_idx (n := (cs.length : Int)) (by omega) (by omega) (by omega)]; omega
    have hc : inB (rd cs i) = true := all_rd hs i hi
    have htn := termsL_snoc cs i hi
    have hl := htl i
    have hl2 := htl (i + 1)
    rw [htn] at ih hl2
    rw [show d + 1 + 30 = (d + 30) + 1 by omega, familycheckref01_FormatRow.l0, if_pos (by omega), if_pos (by omega)]
    by_cases hz : rd cs i = 0
    · rw [if_pos hz, hw]
      unfold addTerm at ih
      rw [if_pos hz] at ih
      exact ih
    · have hdl := itoa_len11 (n := (i : Int)) (by omega) (by omega)
      rw [if_neg hz, ref_itoa (by omega) (by omega) (d + 30) (by omega)]
      simp only [Option.bind_some]
      rw [if_pos (by rw [S_size]; omega), S_list, show (⟨#[120]⟩ : ByteArray) = S [120] from rfl, S_app, ref_item _ hc _ (by simp; omega) (d + 30) (by omega)]
      simp only [Option.bind_some]
      have e : restText (rd cs i) ([120] ++ Lib.itoa i) = termL (rd cs i) i := by
        unfold restText termL
        simp
      unfold addTerm at ih hl2
      rw [if_neg hz] at ih hl2
      rw [e, S_app, hw, if_pos (by rw [S_size, S_size]; simp only [List.length_append] at hl2 ⊢; omega), ← List.append_assoc]
      exact ih
theorem ref_format (cs : List Int) (a : Int) : ∃ f, familycheckref01_FormatRow.f f cs a = some (if 96 < cs.length then (S [], 1) else if smallB cs a = true then (S (rowL cs a), 0) else (S [], 4)) := by
  refine ⟨130, ?_⟩
  unfold familycheckref01_FormatRow.f
  by_cases h : 96 < cs.length
  · rw [if_pos (by omega), if_pos h]
  · rw [if_neg (by omega), if_neg h, ref_small cs a (by omega) 130 (by omega)]
    simp only [Option.bind_some]
    by_cases hs : smallB cs a = true
    · rw [if_pos hs, if_pos hs]
      have h1 := ref_format_loop cs a (by omega) hs cs.length 0 (by omega)
      exact at_rounds (g := fun k => familycheckref01_FormatRow.l0 k (S []) 0 cs a) (fun k => familycheckref01_FormatRow.mono_l k _ _ _ _) (show cs.length + 30 ≤ 130 by omega) h1
    · rw [if_neg hs, if_neg hs]
end Go.Proofs.YthgnpbaldhemiaaDoor.Pr
