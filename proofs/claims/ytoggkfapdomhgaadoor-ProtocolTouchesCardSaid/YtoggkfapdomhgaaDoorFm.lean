/- The plain law of edits of a family: an edit that is carried out can be taken back. Conditions: the judge of families takes only sorted initial states. -/
import Derived.Test.YtoggkfapdomhgaaDoorPx0
namespace Go.Proofs.YtoggkfapdomhgaaDoor.Pr
def posIn (xs : List Int) (s : Int) : Nat := xs.countP (· < s)
def chg (P : S27) (e : S32) : Option (S27) :=
  if e.f0 = 1 then some { P with f9 := P.f9 ++ [e.f2] }
  else if e.f0 = 2 ∨ e.f0 = 3 then
    if 0 ≤ e.f1 ∧ e.f1 < P.f9.length then
      if e.f0 = 2 then some { P with f9 := P.f9.set e.f1.toNat e.f2 }
      else some { P with f9 := P.f9.take e.f1.toNat ++ P.f9.drop (e.f1.toNat + 1) }
    else none
  else if e.f0 = 4 ∨ e.f0 = 5 ∨ e.f0 = 6 then
    if 0 ≤ e.f3 ∧ e.f3 < P.f2.length then
      if e.f0 = 6 then some { P with f2 := P.f2.set e.f3.toNat e.f4 }
      else if P.f7.contains e.f3 = decide (e.f0 = 5) then
        if e.f0 = 5 then some { P with f7 := P.f7.take (posIn P.f7 e.f3) ++ P.f7.drop (posIn P.f7 e.f3 + 1) }
        else some { P with f7 := P.f7.take (posIn P.f7 e.f3) ++ e.f3 :: P.f7.drop (posIn P.f7 e.f3) }
      else none
    else none
  else none
def appl (V : S27 → Int) (P : S27) (e : S32) : Option (S27) :=
  if V P = 0 then (chg P e).bind fun Q => if V Q = 0 then some Q else none else none

theorem sorted_take_drop (xs : List Int) (s : Int) (hs : xs.Pairwise (· < ·)) (hc : xs.contains s = true) : xs = xs.take (posIn xs s) ++ s :: xs.drop (posIn xs s + 1) := by
  induction xs with
  | nil => simp at hc
  | cons a xs ih =>
    rw [List.pairwise_cons] at hs
    unfold posIn
    rw [List.countP_cons]
    by_cases h : a < s
    · have hne : ¬ s = a := by omega
      have hc2 : xs.contains s = true := by simpa [hne] using hc
      have := ih hs.2 hc2
      unfold posIn at this
      simp only [h, decide_true, if_true, List.take_succ_cons, List.drop_succ_cons, List.cons_append]
      rw [← this]
    · have hz : List.countP (fun x => decide (x < s)) xs = 0 := by
        rw [List.countP_eq_zero]
        intro b hb
        have := hs.1 b hb
        simp only [decide_eq_true_eq]
        omega
      have ha : s = a := by
        rw [List.contains_cons, Bool.or_eq_true] at hc
        rcases hc with hc | hc
        · exact eq_of_beq hc
        · have hm : s ∈ xs := by simpa using hc
          have := hs.1 s hm
          omega
      subst ha
      simp [hz]
theorem posIn_insert (xs : List Int) (s : Int) (k : Nat) (hk : k = posIn xs s) : posIn (xs.take k ++ s :: xs.drop k) s = k := by
  have h : posIn (xs.take k ++ s :: xs.drop k) s = posIn (xs.take k) s + posIn (xs.drop k) s := by
    unfold posIn
    rw [List.countP_append, List.countP_cons]
    simp
  have h2 : posIn (xs.take k) s + posIn (xs.drop k) s = posIn xs s := by
    unfold posIn
    rw [← List.countP_append, List.take_append_drop]
  omega
theorem posIn_le (xs : List Int) (s : Int) : posIn xs s ≤ xs.length := List.countP_le_length
theorem insert_back (xs : List Int) (s : Int) (ys : List Int) (hy : ys = xs.take (posIn xs s) ++ s :: xs.drop (posIn xs s)) : ys.contains s = true ∧ ys.take (posIn ys s) ++ ys.drop (posIn ys s + 1) = xs := by
  have hp : posIn ys s = posIn xs s := by rw [hy]; exact posIn_insert xs s _ rfl
  have hl : (xs.take (posIn xs s)).length = posIn xs s := by rw [List.length_take]; have := posIn_le xs s; omega
  refine ⟨by rw [hy]; simp, ?_⟩
  rw [hp, hy]
  generalize hA : xs.take (posIn xs s) = A at hl ⊢
  generalize hB : xs.drop (posIn xs s) = B
  rw [List.take_append_of_le_length (by omega), List.take_of_length_le (by omega), List.drop_append]
  rw [List.drop_eq_nil_of_le (by omega), hl]
  simp
  rw [← hA, ← hB, List.take_append_drop]
theorem posIn_delete (xs : List Int) (s : Int) (hs : xs.Pairwise (· < ·)) (hc : xs.contains s = true) : posIn (xs.take (posIn xs s) ++ xs.drop (posIn xs s + 1)) s = posIn xs s ∧ (xs.take (posIn xs s) ++ xs.drop (posIn xs s + 1)).contains s = false := by
  have h := sorted_take_drop xs s hs hc
  generalize hk : posIn xs s = k at h ⊢
  generalize hA : xs.take k = A at h ⊢
  generalize hB : xs.drop (k + 1) = B at h ⊢
  constructor
  · rw [← hk, h]
    unfold posIn
    rw [List.countP_append, List.countP_append, List.countP_cons]
    simp
  · rw [h] at hs
    rw [List.pairwise_append, List.pairwise_cons] at hs
    rw [Bool.eq_false_iff]
    intro hm
    have hm2 : s ∈ A ++ B := by simpa using hm
    rcases List.mem_append.1 hm2 with h1 | h1
    · have := hs.2.2 s h1 s (by simp)
      omega
    · have := hs.2.1.1 s h1
      omega
theorem delete_back (xs : List Int) (s : Int) (ys : List Int) (hs : xs.Pairwise (· < ·)) (hc : xs.contains s = true) (hy : ys = xs.take (posIn xs s) ++ xs.drop (posIn xs s + 1)) : ys.contains s = false ∧ ys.take (posIn ys s) ++ s :: ys.drop (posIn ys s) = xs := by
  obtain ⟨h1, h2⟩ := posIn_delete xs s hs hc
  rw [← hy] at h1 h2
  refine ⟨h2, ?_⟩
  have hlt : (xs.take (posIn xs s)).length = posIn xs s := by rw [List.length_take]; have := posIn_le xs s; omega
  rw [h1, hy, List.take_append_of_le_length (by omega), List.take_of_length_le (by omega), List.drop_append, List.drop_eq_nil_of_le (by omega), hlt]
  simpa using (sorted_take_drop xs s hs hc).symm
def backOf (P : S27) (z : S30) (e : S32) : S32 :=
  if e.f0 = 2 then ⟨2, e.f1, P.f9.getD e.f1.toNat z, 0, ByteArray.empty⟩
  else if e.f0 = 3 then ⟨1, 0, P.f9.getD e.f1.toNat z, 0, ByteArray.empty⟩
  else if e.f0 = 4 then ⟨5, 0, z, e.f3, ByteArray.empty⟩
  else if e.f0 = 5 then ⟨4, 0, z, e.f3, ByteArray.empty⟩
  else if e.f0 = 6 then ⟨6, 0, z, e.f3, P.f2.getD e.f3.toNat ByteArray.empty⟩
  else ⟨3, P.f9.length, z, 0, ByteArray.empty⟩
theorem appl_some {V : S27 → Int} {P Q : S27} {e : S32} (h : appl V P e = some Q) : V P = 0 ∧ chg P e = some Q ∧ V Q = 0 := by
  unfold appl at h
  split at h
  · rename_i hv
    rw [Option.bind_eq_some_iff] at h
    obtain ⟨Q', h1, h2⟩ := h
    split at h2
    · rename_i hv2
      cases h2
      exact ⟨hv, h1, hv2⟩
    · cases h2
  · cases h
theorem appl_of {V : S27 → Int} {P Q : S27} {e : S32} (h1 : V P = 0) (h2 : chg P e = some Q) (h3 : V Q = 0) : appl V P e = some Q := by
  unfold appl
  rw [if_pos h1, h2, Option.bind_some, if_pos h3]
theorem eq_of_fam (P : S27) (s : List ByteArray) (i : List Int) (r : List S30) (h1 : s = P.f2) (h2 : i = P.f7) (h3 : r = P.f9) : ({ P with f2 := s, f7 := i, f9 := r } : S27) = P := by
  subst h1 h2 h3
  rfl
theorem chg_range {P Q : S27} {e : S32} (h : chg P e = some Q) : ((e.f0 = 2 ∨ e.f0 = 3) → 0 ≤ e.f1 ∧ e.f1 < P.f9.length) ∧ (e.f0 = 6 → 0 ≤ e.f3 ∧ e.f3 < P.f2.length) := by
  unfold chg at h
  constructor
  · intro hk
    rw [if_neg (by omega), if_pos hk] at h
    split at h
    · assumption
    · cases h
  · intro hk
    rw [if_neg (by omega), if_neg (by omega), if_pos (.inr (.inr hk))] at h
    split at h
    · assumption
    · cases h
theorem chg_back {P Q : S27} {e : S32} (z : S30) (hs : P.f7.Pairwise (· < ·)) (h : chg P e = some Q) (hk : ¬(e.f0 = 3 ∧ e.f1 ≠ P.f9.length - 1)) : chg Q (backOf P z e) = some P := by
  unfold chg at h
  split at h
  · rename_i k1
    obtain rfl := Option.some.inj h
    unfold backOf
    rw [if_neg (by omega), if_neg (by omega), if_neg (by omega), if_neg (by omega), if_neg (by omega)]
    unfold chg
    rw [if_neg (by simp), if_pos (by simp), if_pos (by simp; omega), if_neg (by simp)]
    simp
  · split at h
    · rename_i k1 k2
      split at h
      · rename_i hr
        have hi : e.f1.toNat < P.f9.length := by omega
        split at h
        · rename_i k3
          obtain rfl := Option.some.inj h
          unfold backOf
          rw [if_pos k3]
          unfold chg
          rw [if_neg (by simp), if_pos (by simp), if_pos (by simpa using hr), if_pos rfl]
          have : P.f9.set e.f1.toNat (P.f9.getD e.f1.toNat z) = P.f9 := by
            rw [List.getD_eq_getElem?_getD, List.getElem?_eq_getElem hi]
            simp
          simp only [List.set_set, this]
        · rename_i k3
          have k4 : e.f0 = 3 := by omega
          obtain rfl := Option.some.inj h
          unfold backOf
          rw [if_neg k3, if_pos k4]
          unfold chg
          rw [if_pos rfl]
          have hl : e.f1.toNat + 1 = P.f9.length := by omega
          have : P.f9.take e.f1.toNat ++ P.f9.drop (e.f1.toNat + 1) ++ [P.f9.getD e.f1.toNat z] = P.f9 := by
            rw [List.drop_eq_nil_of_le (by omega), List.append_nil, List.getD_eq_getElem?_getD, List.getElem?_eq_getElem hi, Option.getD_some, ← List.take_succ_eq_append_getElem hi, List.take_of_length_le (by omega)]
          simp only [this]
      · cases h
    · split at h
      · rename_i k1 k2 k3
        split at h
        · rename_i hr
          have hi : e.f3.toNat < P.f2.length := by omega
          split at h
          · rename_i k4
            obtain rfl := Option.some.inj h
            unfold backOf
            rw [if_neg (by omega), if_neg (by omega), if_neg (by omega), if_neg (by omega), if_pos k4]
            unfold chg
            rw [if_neg (by simp), if_neg (by simp), if_pos (by simp), if_pos (by simpa using hr), if_pos rfl]
            have : P.f2.set e.f3.toNat (P.f2.getD e.f3.toNat ByteArray.empty) = P.f2 := by
              rw [List.getD_eq_getElem?_getD, List.getElem?_eq_getElem hi]
              simp
            simp only [List.set_set, this]
          · rename_i k4
            split at h
            · rename_i hc
              split at h
              · rename_i k5
                obtain rfl := Option.some.inj h
                obtain ⟨h1, h2⟩ := delete_back P.f7 e.f3 _ hs (by rw [hc]; simpa using k5) rfl
                unfold backOf
                rw [if_neg (by omega), if_neg (by omega), if_neg (by omega), if_pos k5]
                unfold chg
                rw [if_neg (by simp), if_neg (by simp), if_pos (by simp), if_pos (by simpa using hr), if_neg (by simp)]
                simp only [h1, h2]
                rfl
              · rename_i k5
                obtain rfl := Option.some.inj h
                obtain ⟨h1, h2⟩ := insert_back P.f7 e.f3 _ rfl
                unfold backOf
                rw [if_neg (by omega), if_neg (by omega), if_pos (by omega)]
                unfold chg
                rw [if_neg (by simp), if_neg (by simp), if_pos (by simp), if_pos (by simpa using hr), if_neg (by simp)]
                simp only [h1, h2]
                rfl
            · cases h
        · cases h
      · cases h
theorem appl_back (V : S27 → Int) (hV : ∀ P, V P = 0 → P.f7.Pairwise (· < ·)) {P Q : S27} {e : S32} (z : S30) (h : appl V P e = some Q) (hk : ¬(e.f0 = 3 ∧ e.f1 ≠ P.f9.length - 1)) : appl V Q (backOf P z e) = some P := by
  obtain ⟨h1, h2, h3⟩ := appl_some h
  exact appl_of h3 (chg_back z (hV P h1) h2 hk) h1
theorem appl_less (V : S27 → Int) {P Q : S27} {e : S32} (h : appl V P e = some Q) (hk : e.f0 = 3) : (Q.f9.length : Int) = P.f9.length - 1 := by
  obtain ⟨h1, h2, h3⟩ := appl_some h
  have hr := (chg_range h2).1 (.inr hk)
  unfold chg at h2
  rw [if_neg (by omega), if_pos (by omega), if_pos hr, if_neg (by omega)] at h2
  obtain rfl := Option.some.inj h2
  simp
  omega
end Go.Proofs.YtoggkfapdomhgaaDoor.Pr
