/- The round trip in plain lists: a row of small numbers is read back from its text by ParseRow; no program in sight; conditions: the numbers are small and there are at most 96 coefficients. -/
import Derived.Test.YthgnpbaldhemiaaDoorHg
import Derived.Lib.AtoiTie
import Derived.Lib.IndexLaws
import Derived.Lib.CountLaws
namespace Go.Proofs.YthgnpbaldhemiaaDoor.Pr
open Go.RowKit Go.Proofs.YthgnpbaldhemiaaDoorW.PrintWords Go.Proofs.YthgnpbaldhemiaaDoorW.PrintLast Go.Proofs.YthgnpbaldhemiaaDoorW.PrintMore
set_option linter.unusedVariables false
set_option linter.unusedSimpArgs false

/-! ### digits -/
theorem dig_toNat (d : Nat) (h : d < 10) : (UInt8.ofNat (48 + d)).toNat = 48 + d := by
  rw [UInt8.toNat_ofNat_of_lt' (by show 48 + d < 256; omega)]
theorem decFrom_snoc (d : Nat) (hd : d < 10) : ∀ (l : List UInt8) (acc : Nat), Lib.decFrom acc (l ++ [UInt8.ofNat (48 + d)]) = (Lib.decFrom acc l).map fun m => 10 * m + d
  | [], acc => by
    have := dig_toNat d hd
    simp only [List.nil_append, Lib.decFrom, Lib.digitVal, this]
    rw [if_pos (by omega)]
    simp [Lib.decFrom]; omega
  | c :: l, acc => by
    simp only [List.cons_append, Lib.decFrom]
    cases h : Lib.digitVal c with
    | none => simp [h]
    | some v =>
      simp only [h]
      exact decFrom_snoc d hd l _
theorem decFrom_digits (u : Nat) : Lib.decFrom 0 (Lib.decDigits u) = some u := by
  induction u using Nat.strongRecOn with
  | _ u ih =>
    by_cases h : u < 10
    · rw [Lib.decDigits, dif_pos h]
      have := decFrom_snoc u h [] 0
      simpa [Lib.decFrom] using this
    · rw [Lib.decDigits, dif_neg h, decFrom_snoc _ (by omega), ih (u / 10) (by omega)]
      simp
      omega
theorem digits_all (u : Nat) : ∀ c ∈ Lib.decDigits u, 48 ≤ c.toNat ∧ c.toNat ≤ 57 := by
  induction u using Nat.strongRecOn with
  | _ u ih =>
    intro c hc
    by_cases h : u < 10
    · rw [Lib.decDigits, dif_pos h] at hc
      rw [List.mem_singleton.1 hc, dig_toNat u h]
      omega
    · rw [Lib.decDigits, dif_neg h] at hc
      rcases List.mem_append.1 hc with hc | hc
      · exact ih (u / 10) (by omega) c hc
      · rw [List.mem_singleton.1 hc, dig_toNat _ (by omega)]
        omega
theorem digits_ne (u : Nat) : Lib.decDigits u ≠ [] := by
  rw [Lib.decDigits]
  split <;> simp
theorem nDigits_le : ∀ (k u : Nat), 1 ≤ k → u < 10 ^ k → Lib.nDigits u ≤ k
  | 0, _, h, _ => by omega
  | k + 1, u, _, hu => by
    by_cases hs : u < 10
    · rw [Lib.nDigits_small hs]; omega
    · rw [Lib.nDigits_big hs]
      have hu' : u / 10 < 10 ^ k := by rw [Nat.pow_succ] at hu; omega
      have hk : 1 ≤ k := by
        rcases Nat.eq_zero_or_pos k with rfl | h
        · simp at hu'; omega
        · exact h
      have := nDigits_le k (u / 10) hk hu'
      omega
theorem digits_len (u : Nat) (h : u ≤ 68719476736) : (Lib.decDigits u).length ≤ 11 := by
  rw [Lib.decDigits_length]
  exact nDigits_le 11 u (by omega) (by omega)

/-! ### numbers -/
theorem itoa_nn {n : Int} (h : 0 ≤ n) : Lib.itoa n = Lib.decDigits n.toNat := by unfold Lib.itoa; rw [if_neg (by omega)]
theorem itoa_all {n : Int} (h : 0 ≤ n) : ∀ c ∈ Lib.itoa n, 48 ≤ c.toNat ∧ c.toNat ≤ 57 := by rw [itoa_nn h]; exact digits_all _
theorem itoa_ne {n : Int} (h : 0 ≤ n) : Lib.itoa n ≠ [] := by rw [itoa_nn h]; exact digits_ne _
theorem itoa_len11 {n : Int} (h : 0 ≤ n) (h1 : n ≤ 68719476736) : (Lib.itoa n).length ≤ 11 := by rw [itoa_nn h]; exact digits_len _ (by omega)
theorem atoi_itoa {n : Int} (h : 0 ≤ n) (h1 : n ≤ 68719476736) : Lib.atoiAll (Lib.itoa n) = .ok n := by
  have hl := itoa_len11 h h1
  have ha := itoa_all h
  have hn : Lib.decNat (Lib.itoa n) = some n.toNat := by
    unfold Lib.decNat
    rw [if_neg (by simpa using itoa_ne h), itoa_nn h, decFrom_digits]
  cases hc : Lib.itoa n with
  | nil => exact absurd hc (itoa_ne h)
  | cons c r =>
    rw [hc] at ha hl hn
    have := ha c (List.mem_cons_self)
    rw [Lib.atoiAll_plain c r (by omega) (by omega), Lib.signless_short (by omega), hn]
    simp [Lib.NumEnd.ofOption]
    omega

/-! ### one separator of one byte -/
theorem index_none (c : UInt8) : ∀ (l : List UInt8), c ∉ l → Lib.index l [c] = -1
  | [], _ => rfl
  | b :: l, h => by
    simp only [List.mem_cons, not_or] at h
    have hp : List.isPrefixOf [c] (b :: l) = false := by simp [List.isPrefixOf, h.1]
    have := index_none c l h.2
    simp [Lib.index, hp, this]
theorem index_some (c : UInt8) : ∀ (l r : List UInt8), c ∉ l → Lib.index (l ++ c :: r) [c] = l.length
  | [], r, _ => by simp [Lib.index, List.isPrefixOf]
  | b :: l, r, h => by
    simp only [List.mem_cons, not_or] at h
    have hp : List.isPrefixOf [c] (b :: (l ++ c :: r)) = false := by simp [List.isPrefixOf, h.1]
    have := index_some c l r h.2
    simp only [List.cons_append, Lib.index, hp, this, List.length_cons]
    rw [if_neg (by simp), if_neg (by rw [beq_iff_eq]; omega)]
    omega
theorem cut_none {c : UInt8} {l : List UInt8} (h : c ∉ l) : Lib.cut l [c] = (l, [], false) := by
  unfold Lib.cut
  rw [index_none c l h, if_neg (by omega)]
theorem cut_some {c : UInt8} {l r : List UInt8} (h : c ∉ l) : Lib.cut (l ++ c :: r) [c] = (l, r, true) := by
  unfold Lib.cut
  rw [index_some c l r h, if_pos (by omega)]
  have e : ((l.length : Int).toNat) = l.length := by omega
  rw [e]
  simp
theorem split_none {c : UInt8} {l : List UInt8} (h : c ∉ l) : Lib.split l [c] = [l] := by
  unfold Lib.split
  rw [Lib.count_miss (index_none c l h)]
  rfl
theorem split_some {c : UInt8} {l r : List UInt8} (h : c ∉ l) : Lib.split (l ++ c :: r) [c] = l :: Lib.split r [c] := by
  unfold Lib.split
  rw [Lib.count_hit (by simp) (index_some c l r h)]
  have e : (l ++ c :: r).drop (l.length + [c].length) = r := by simp [List.drop_append]
  rw [e, Nat.add_comm 1]
  simp only [Lib.splitK]
  rw [index_some c l r h, if_neg (by rw [beq_iff_eq]; omega)]
  have e2 : ((l.length : Int).toNat) = l.length := by omega
  rw [e2, e]
  simp

/-! ### items -/
/-- A term of variable i, or the constant. -/
abbrev Item := Option Nat × Int
def itemText (m : Item) : List UInt8 := match m.1 with
  | some i => termL m.2 i
  | none => Lib.itoa (mx m.2 (-m.2))
def itemNeg (m : Item) : Bool := decide (m.2 < 0)
def itemSgn (m : Item) : Int := if m.2 < 0 then -1 else 1
def itemStep (s : List Int × Int) (m : Item) : List Int × Int := match m.1 with
  | some i => (s.1.set i m.2, s.2)
  | none => (s.1, m.2)
def itemOk (n : Nat) (m : Item) : Prop := inB m.2 = true ∧ ∀ i, m.1 = some i → i < n ∧ m.2 ≠ 0
def render : Bool → List Item → List UInt8
  | _, [] => []
  | first, m :: r => sep first (itemNeg m) ++ itemText m ++ render false r
def terms : List Int → Nat → List Item
  | [], _ => []
  | c :: cs, i => if c = 0 then terms cs (i + 1) else (some i, c) :: terms cs (i + 1)
def items (cs : List Int) (k : Int) : List Item := terms cs 0 ++ if k = 0 ∧ terms cs 0 ≠ [] then [] else [(none, k)]

theorem termL_chars {c : Int} {i : Nat} (h : inB c = true) : ∀ x ∈ termL c i, (48 ≤ x.toNat ∧ x.toNat ≤ 57) ∨ x = 42 ∨ x = 120 := by
  intro x hx
  have h1 := itoa_all (n := (i : Int)) (by omega)
  have h2 := itoa_all (mx_bound h).1
  unfold termL at hx
  split at hx
  · rcases List.mem_cons.1 hx with rfl | hx
    · exact .inr (.inr rfl)
    · exact .inl (h1 x hx)
  · rcases List.mem_append.1 hx with hx | hx
    · exact .inl (h2 x hx)
    · rcases List.mem_cons.1 hx with rfl | hx
      · exact .inr (.inl rfl)
      · rcases List.mem_cons.1 hx with rfl | hx
        · exact .inr (.inr rfl)
        · exact .inl (h1 x hx)
theorem termL_ne (c : Int) (i : Nat) : termL c i ≠ [] := by
  unfold termL
  split <;> simp
theorem itemText_chars {n : Nat} {m : Item} (h : itemOk n m) : ∀ x ∈ itemText m, (48 ≤ x.toNat ∧ x.toNat ≤ 57) ∨ x = 42 ∨ x = 120 := by
  intro x hx
  obtain ⟨o, c⟩ := m
  cases o with
  | some i => exact termL_chars h.1 x hx
  | none => exact .inl (itoa_all (mx_bound h.1).1 x hx)
theorem itemText_ne {n : Nat} {m : Item} (h : itemOk n m) : itemText m ≠ [] := by
  obtain ⟨o, c⟩ := m
  cases o with
  | some i => exact termL_ne _ _
  | none => exact itoa_ne (mx_bound h.1).1
theorem not_mem_of_chars {l : List UInt8} (h : ∀ x ∈ l, (48 ≤ x.toNat ∧ x.toNat ≤ 57) ∨ x = 42 ∨ x = 120) {c : UInt8} (hc : c = 32 ∨ c = 45) : c ∉ l := by
  intro hm
  rcases h c hm with hh | hh | hh <;> rcases hc with rfl | rfl <;> revert hh <;> decide

/-! ### the text is the items' text -/
theorem termsL_render : ∀ (cs : List Int) (i : Nat) (l : List UInt8), termsL cs i l = l ++ render l.isEmpty (terms cs i)
  | [], i, l => by simp [termsL, terms, render]
  | c :: cs, i, l => by
    simp only [termsL, terms]
    rw [termsL_render cs]
    unfold addTerm
    by_cases hc : c = 0
    · rw [if_pos hc, if_pos hc]
    · rw [if_neg hc, if_neg hc]
      have hne : (l ++ sep l.isEmpty (decide (c < 0)) ++ termL c i).isEmpty = false := by
        have := termL_ne c i
        cases h : termL c i with
        | nil => exact absurd h this
        | cons a b => simp
      rw [hne]
      simp [render, itemNeg, itemText]
theorem render_append : ∀ (a b : List Item) (f : Bool), render f (a ++ b) = render f a ++ render (f && a.isEmpty) b
  | [], b, f => by simp [render]
  | m :: a, b, f => by
    simp only [List.cons_append, render, List.isEmpty_cons, Bool.and_false]
    rw [render_append a b false]
    simp
theorem render_empty {n : Nat} : ∀ {a : List Item} {f : Bool}, (∀ m ∈ a, itemOk n m) → (render f a).isEmpty = a.isEmpty
  | [], f, _ => by simp [render]
  | m :: a, f, h => by
    have := itemText_ne (h m (List.mem_cons_self))
    cases hh : itemText m with
    | nil => exact absurd hh this
    | cons x y => simp [render, hh]
theorem terms_ok {n : Nat} : ∀ (cs : List Int) (i : Nat), cs.all inB = true → i + cs.length ≤ n → ∀ m ∈ terms cs i, itemOk n m
  | [], _, _, _, m, h => by simp [terms] at h
  | c :: cs, i, ha, hi, m, h => by
    simp only [List.all_cons, Bool.and_eq_true] at ha
    simp only [List.length_cons] at hi
    simp only [terms] at h
    split at h
    · exact terms_ok cs (i + 1) ha.2 (by omega) m h
    · rename_i hc
      rcases List.mem_cons.1 h with rfl | h
      · exact ⟨ha.1, fun j hj => by
          injection hj with hj
          exact ⟨by omega, hc⟩⟩
      · exact terms_ok cs (i + 1) ha.2 (by omega) m h
theorem bodyL_render {cs : List Int} {k : Int} (h : smallB cs k = true) : bodyL cs k = render true (items cs k) := by
  have ha : cs.all inB = true := by simp only [smallB, Bool.and_eq_true] at h; exact h.1
  have ht := termsL_render cs 0 []
  have he := render_empty (f := true) (terms_ok (n := cs.length) cs 0 ha (by omega))
  simp only [List.nil_append, List.isEmpty_nil] at ht
  unfold bodyL items
  rw [ht, he]
  by_cases hc : k = 0 ∧ (terms cs 0).isEmpty = false
  · rw [if_pos hc, if_pos ⟨hc.1, by simpa using hc.2⟩]
    simp
  · rw [if_neg hc, if_neg (fun hh => hc ⟨hh.1, by simpa using hh.2⟩), render_append]
    simp [render, itemNeg, itemText]
theorem items_ok {cs : List Int} {k : Int} (h : smallB cs k = true) : ∀ m ∈ items cs k, itemOk cs.length m := by
  have ha : cs.all inB = true ∧ inB k = true := by simpa only [smallB, Bool.and_eq_true] using h
  intro m hm
  rcases List.mem_append.1 hm with hm | hm
  · exact terms_ok cs 0 ha.1 (by omega) m hm
  · split at hm
    · simp at hm
    · rw [List.mem_singleton.1 hm]
      exact ⟨ha.2, fun i hi => by cases hi⟩
theorem items_ne (cs : List Int) (k : Int) : items cs k ≠ [] := by
  unfold items
  split
  · rename_i h
    simpa using h.2
  · simp

/-! ### an item is read -/
theorem sgn_mx (c : Int) : itemSgn (none, c) * mx c (-c) = c := by
  unfold itemSgn mx
  simp only
  split <;> split <;> omega
theorem prefix_one {c : UInt8} {l : List UInt8} : Lib.hasPrefix (c :: l) [c] = true := by simp [Lib.hasPrefix, List.isPrefixOf]
theorem prefix_digit {l : List UInt8} (h : ∀ c ∈ l, 48 ≤ c.toNat ∧ c.toNat ≤ 57) : Lib.hasPrefix l [120] = false := by
  cases l with
  | nil => rfl
  | cons c l =>
    have hc := h c (List.mem_cons_self)
    have hne : ¬ (120 : UInt8) = c := by
      rintro rfl
      exact absurd hc.2 (by decide)
    simp [Lib.hasPrefix, List.isPrefixOf, hne]
theorem itemF_text {cs : List Int} {k : Int} {m : Item} (hn : cs.length ≤ 96) (h : itemOk cs.length m) : itemF cs k (itemSgn m) (itemText m) = some (itemStep (cs, k) m) := by
  obtain ⟨o, c⟩ := m
  have hmx : 0 ≤ mx c (-c) ∧ mx c (-c) ≤ 68719476736 := mx_bound h.1
  have hinm : inB (mx c (-c)) = true := (inB_iff _).2 ⟨by omega, hmx.2⟩
  have hsg : itemSgn (o, c) * mx c (-c) = c := sgn_mx c
  cases o with
  | none =>
    have hd := itoa_all hmx.1
    have h42 : (42 : UInt8) ∉ Lib.itoa (mx c (-c)) := fun hm => absurd (hd _ hm).1 (by decide)
    unfold itemF itemText itemStep
    simp only
    rw [cut_none h42]
    simp only [Bool.false_eq_true, if_false]
    rw [prefix_digit hd, atoi_itoa hmx.1 hmx.2]
    simp [hinm, hsg]
  | some i =>
    obtain ⟨hi, hc0⟩ := h.2 i rfl
    have hdi := itoa_all (n := (i : Int)) (by omega)
    have hai := atoi_itoa (n := (i : Int)) (by omega) (by omega)
    have hin : (i : Int) < cs.length := by omega
    unfold itemF itemText itemStep termL
    simp only
    by_cases h1 : c = 1 ∨ c = -1
    · rw [if_pos h1]
      have h42 : (42 : UInt8) ∉ 120 :: Lib.itoa i := by
        intro hm
        rcases List.mem_cons.1 hm with hm | hm
        · exact absurd hm (by decide)
        · exact absurd (hdi _ hm).1 (by decide)
      rw [cut_none h42]
      simp only [Bool.false_eq_true, if_false]
      have htp : Lib.trimPrefix (120 :: Lib.itoa i) [120] = Lib.itoa i := by simp [Lib.trimPrefix, prefix_one]
      rw [prefix_one, htp, hai, atoi_one]
      have hm1 : mx c (-c) = 1 := by unfold mx; rcases h1 with rfl | rfl <;> decide
      rw [hm1] at hsg hinm
      simp [hinm, hsg, hin]
    · rw [if_neg h1]
      have h42 : (42 : UInt8) ∉ Lib.itoa (mx c (-c)) := fun hm => absurd (itoa_all hmx.1 _ hm).1 (by decide)
      rw [cut_some h42]
      simp only [if_true]
      have htp : Lib.trimPrefix (120 :: Lib.itoa i) [120] = Lib.itoa i := by simp [Lib.trimPrefix, prefix_one]
      rw [prefix_one, htp, hai, atoi_itoa hmx.1 hmx.2]
      simp [hinm, hsg, hin]

/-! ### all items are read -/
theorem step_len (s : List Int × Int) (m : Item) : (itemStep s m).1.length = s.1.length := by
  obtain ⟨o, c⟩ := m
  cases o <;> simp [itemStep]
/-- The words behind the first item's. -/
def tailWords : List Item → List (List UInt8)
  | [] => []
  | m :: r => (if itemNeg m then [45] else [43]) :: itemText m :: tailWords r
theorem split_items {n : Nat} : ∀ (r : List Item) (m : Item), itemOk n m → (∀ x ∈ r, itemOk n x) → Lib.split (itemText m ++ render false r) [32] = itemText m :: tailWords r
  | [], m, h, _ => by
    simp only [render, List.append_nil, tailWords]
    exact split_none (not_mem_of_chars (itemText_chars h) (.inl rfl))
  | x :: r, m, h, hr => by
    have ih := split_items r x (hr x (List.mem_cons_self)) (fun y hy => hr y (List.mem_cons_of_mem _ hy))
    simp only [render, tailWords]
    have h32 := not_mem_of_chars (itemText_chars h) (c := 32) (.inl rfl)
    cases hneg : itemNeg x
    · rw [show itemText m ++ (sep false false ++ itemText x ++ render false r) = itemText m ++ 32 :: ([43] ++ 32 :: (itemText x ++ render false r)) by simp [sep]]
      rw [split_some h32, split_some (by decide), ih]
      simp
    · rw [show itemText m ++ (sep false true ++ itemText x ++ render false r) = itemText m ++ 32 :: ([45] ++ 32 :: (itemText x ++ render false r)) by simp [sep]]
      rw [split_some h32, split_some (by decide), ih]
      simp
theorem loopF_items : ∀ (r : List Item) (m : Item) (cs : List Int) (k : Int), cs.length ≤ 96 → itemOk cs.length m → (∀ x ∈ r, itemOk cs.length x) → loopF (itemText m :: tailWords r) true (itemSgn m) cs k = some (r.foldl itemStep (itemStep (cs, k) m))
  | [], m, cs, k, hn, h, _ => by
    simp only [tailWords, loopF, itemF_text hn h, Option.bind_some, List.foldl_nil]
  | x :: r, m, cs, k, hn, h, hr => by
    have hl := step_len (cs, k) m
    simp only at hl
    have ih := loopF_items r x (itemStep (cs, k) m).1 (itemStep (cs, k) m).2 (by omega) (by rw [hl]; exact hr x (List.mem_cons_self)) (fun y hy => by rw [hl]; exact hr y (List.mem_cons_of_mem _ hy))
    simp only [tailWords, List.foldl_cons]
    rw [loopF, itemF_text hn h]
    simp only [Option.bind_some]
    cases hneg : itemNeg x
    · have hs : itemSgn x = 1 := by
        unfold itemNeg at hneg
        unfold itemSgn
        rw [if_neg (by simpa using hneg)]
      rw [hs] at ih
      simp only [Bool.false_eq_true, if_false, loopF, if_true]
      exact ih
    · have hs : itemSgn x = -1 := by
        unfold itemNeg at hneg
        unfold itemSgn
        rw [if_pos (by simpa using hneg)]
      rw [hs] at ih
      simp only [if_true, loopF]
      rw [if_neg (by decide)]
      exact ih
theorem fold_terms : ∀ (cs pre : List Int) (k : Int), (terms cs pre.length).foldl itemStep (pre ++ List.replicate cs.length 0, k) = (pre ++ cs, k)
  | [], pre, k => by simp [terms]
  | c :: cs, pre, k => by
    have ih := fold_terms cs (pre ++ [c]) k
    simp only [List.length_append, List.length_singleton] at ih
    simp only [terms]
    have e1 : pre ++ List.replicate (c :: cs).length 0 = pre ++ (0 :: List.replicate cs.length 0) := by simp [List.replicate_succ]
    by_cases hc : c = 0
    · rw [if_pos hc, e1, show pre ++ (0 :: List.replicate cs.length 0) = (pre ++ [c]) ++ List.replicate cs.length 0 by simp [hc], ih]
      simp
    · rw [if_neg hc, e1]
      simp only [List.foldl_cons]
      have e2 : itemStep (pre ++ (0 :: List.replicate cs.length 0), k) (some pre.length, c) = ((pre ++ [c]) ++ List.replicate cs.length 0, k) := by
        simp [itemStep, List.set_append]
      rw [e2, ih]
      simp
theorem fold_items (cs : List Int) (k : Int) : (items cs k).foldl itemStep (List.replicate cs.length 0, 0) = (cs, k) := by
  have h := fold_terms cs [] 0
  simp only [List.nil_append, List.length_nil] at h
  unfold items
  rw [List.foldl_append, h]
  split
  · rename_i hk
    simp [hk.1]
  · simp [itemStep]

/-! ### the row is read back -/
theorem suffix_row (l : List UInt8) : Lib.hasSuffix (l ++ endS) endS = true ∧ Lib.trimSuffix (l ++ endS) endS = l := by
  have h : Lib.hasSuffix (l ++ endS) endS = true := by
    unfold Lib.hasSuffix
    exact List.isSuffixOf_iff_suffix.2 ⟨l, rfl⟩
  refine ⟨h, ?_⟩
  unfold Lib.trimSuffix
  rw [if_pos h]
  simp
theorem read_row {cs : List Int} {k : Int} (hn : cs.length ≤ 96) (h : smallB cs k = true) : readF cs.length (rowL cs k) = some (cs, k) := by
  have hr : rowL cs k = bodyL cs k ++ endS := rfl
  have ho := items_ok h
  have hf := fold_items cs k
  have hb := bodyL_render h
  unfold readF wordsOf signOf bodyOf
  rw [hr, (suffix_row _).2, hb]
  cases hi : items cs k with
  | nil => exact absurd hi (items_ne cs k)
  | cons m r =>
    rw [hi] at ho hf
    have hm := ho m (List.mem_cons_self)
    have hro : ∀ x ∈ r, itemOk cs.length x := fun x hx => ho x (List.mem_cons_of_mem _ hx)
    have hl : (List.replicate cs.length (0 : Int)).length = cs.length := by simp
    have hloop := loopF_items r m (List.replicate cs.length 0) 0 (by omega) (by rw [hl]; exact hm) (by rw [hl]; exact hro)
    have hsp := split_items r m hm hro
    rw [show r.foldl itemStep (itemStep (List.replicate cs.length 0, 0) m) = (cs, k) from hf] at hloop
    cases hneg : itemNeg m
    · have hs : itemSgn m = 1 := by
        unfold itemNeg at hneg
        unfold itemSgn
        rw [if_neg (by simpa using hneg)]
      have hp : Lib.hasPrefix (itemText m ++ render false r) [45] = false := by
        have hne := itemText_ne hm
        have h45 := not_mem_of_chars (itemText_chars hm) (c := 45) (.inr rfl)
        cases ht : itemText m with
        | nil => exact absurd ht hne
        | cons a b =>
          rw [ht] at h45
          simp only [List.mem_cons, not_or] at h45
          simp [Lib.hasPrefix, List.isPrefixOf, h45.1]
      rw [show render true (m :: r) = itemText m ++ render false r by simp [render, sep, hneg]]
      rw [hp, if_neg (by decide), if_neg (by decide), hsp]
      rw [hs] at hloop
      exact hloop
    · have hs : itemSgn m = -1 := by
        unfold itemNeg at hneg
        unfold itemSgn
        rw [if_pos (by simpa using hneg)]
      rw [show render true (m :: r) = 45 :: (itemText m ++ render false r) by simp [render, sep, hneg]]
      have htp : Lib.trimPrefix (45 :: (itemText m ++ render false r)) [45] = itemText m ++ render false r := by simp [Lib.trimPrefix, prefix_one]
      rw [prefix_one, if_pos rfl, if_pos rfl, htp, hsp]
      rw [hs] at hloop
      exact hloop

/-! ### the text is not long -/
theorem itemText_len {n : Nat} {m : Item} (hn : n ≤ 96) (h : itemOk n m) : (itemText m).length ≤ 24 := by
  obtain ⟨o, c⟩ := m
  have hmx : 0 ≤ mx c (-c) ∧ mx c (-c) ≤ 68719476736 := mx_bound h.1
  have h1 := itoa_len11 hmx.1 hmx.2
  cases o with
  | none => simp only [itemText]; omega
  | some i =>
    have hi := (h.2 i rfl).1
    have h2 := itoa_len11 (n := (i : Int)) (by omega) (by omega)
    simp only [itemText, termL]
    split <;> simp <;> omega
theorem render_len {n : Nat} (hn : n ≤ 96) : ∀ (a : List Item) (f : Bool), (∀ m ∈ a, itemOk n m) → (render f a).length ≤ 27 * a.length
  | [], f, _ => by simp [render]
  | m :: a, f, h => by
    have h1 := itemText_len hn (h m (List.mem_cons_self))
    have h2 := sep_len f (itemNeg m)
    have h3 := render_len hn a false (fun x hx => h x (List.mem_cons_of_mem _ hx))
    simp only [render, List.length_append, List.length_cons]
    omega
theorem terms_len : ∀ (cs : List Int) (i : Nat), (terms cs i).length ≤ cs.length
  | [], _ => by simp [terms]
  | c :: cs, i => by
    have := terms_len cs (i + 1)
    simp only [terms]
    split <;> simp <;> omega
theorem rowL_len {cs : List Int} {k : Int} (hn : cs.length ≤ 96) (h : smallB cs k = true) : (rowL cs k).length ≤ 4000 := by
  have h1 := render_len hn (items cs k) true (items_ok h)
  have h2 : (items cs k).length ≤ 97 := by
    have := terms_len cs 0
    unfold items
    split <;> simp <;> omega
  unfold rowL
  rw [bodyL_render h]
  simp
  omega
/-- A SMALL ROW IS READ BACK FROM ITS TEXT. -/
theorem parse_row {cs : List Int} {k : Int} (hn : cs.length ≤ 96) (h : smallB cs k = true) : parseF cs.length (rowL cs k) = (cs, k, 0) := by
  have hl := rowL_len hn h
  have hs : Lib.hasSuffix (rowL cs k) endS = true := (suffix_row (bodyL cs k)).1
  unfold parseF
  rw [if_neg (by omega), if_neg (by omega), if_pos hs]
  rw [show ((cs.length : Int)).toNat = cs.length by omega, read_row hn h]
  unfold lastF
  simp only
  rw [if_pos ⟨h, trivial⟩]
/-- WHAT IS READ HAS JUST THAT TEXT. -/
theorem readF_len {n : Nat} {t : List UInt8} {cs : List Int} {k : Int} (h : readF n t = some (cs, k)) : cs.length = n := by
  have key : ∀ (ws : List (List UInt8)) (ev : Bool) (sg : Int) (cs0 : List Int) (k0 : Int), loopF ws ev sg cs0 k0 = some (cs, k) → cs.length = cs0.length := by
    intro ws
    induction ws with
    | nil =>
      intro ev sg cs0 k0 h
      simp only [loopF, Option.some.injEq, Prod.mk.injEq] at h
      rw [h.1]
    | cons w ws ih =>
      intro ev sg cs0 k0 h
      cases ev
      · simp only [loopF] at h
        split at h
        · exact ih _ _ _ _ h
        · split at h
          · exact ih _ _ _ _ h
          · cases h
      · simp only [loopF] at h
        obtain ⟨p, hp, h⟩ := Option.bind_eq_some_iff.1 h
        rw [ih _ _ _ _ h, itemF_len hp]
  have := key _ _ _ _ _ h
  simpa using this
theorem parse_back {v : Int} {t : List UInt8} {cs : List Int} {k : Int} (h : parseF v t = (cs, k, 0)) : (cs.length : Int) = v ∧ cs.length ≤ 96 ∧ smallB cs k = true ∧ rowL cs k = t := by
  unfold parseF at h
  split at h
  · simp at h
  · rename_i hv
    split at h
    · simp at h
    · split at h
      · unfold lastF at h
        split at h
        · simp at h
        · rename_i cs' k' hr
          split at h
          · rename_i hc
            simp only [Prod.mk.injEq] at h
            obtain ⟨rfl, rfl, _⟩ := h
            have := readF_len hr
            exact ⟨by omega, by omega, hc.1, hc.2⟩
          · simp at h
      · simp at h
theorem parse_err {v : Int} {t : List UInt8} {cs : List Int} {k e : Int} (h : parseF v t = (cs, k, e)) (he : e ≠ 0) : cs = [] ∧ k = 0 := by
  unfold parseF at h
  split at h
  · simp only [Prod.mk.injEq] at h; exact ⟨h.1.symm, h.2.1.symm⟩
  · split at h
    · simp only [Prod.mk.injEq] at h; exact ⟨h.1.symm, h.2.1.symm⟩
    · split at h
      · unfold lastF at h
        split at h
        · simp only [Prod.mk.injEq] at h; exact ⟨h.1.symm, h.2.1.symm⟩
        · split at h
          · simp only [Prod.mk.injEq] at h
            exact absurd h.2.2.symm he
          · simp only [Prod.mk.injEq] at h; exact ⟨h.1.symm, h.2.1.symm⟩
      · simp only [Prod.mk.injEq] at h; exact ⟨h.1.symm, h.2.1.symm⟩
end Go.Proofs.YthgnpbaldhemiaaDoor.Pr
