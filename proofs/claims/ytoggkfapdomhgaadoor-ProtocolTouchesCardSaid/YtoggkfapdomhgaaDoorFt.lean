/- The plain law of ProtocolTouches: which rules an edit touches. Conditions: each theorem's own premises. -/
import Derived.Test.YtoggkfapdomhgaaDoorHw
import Derived.Test.YtoggkfapdomhgaaDoorFm
namespace Go.Proofs.YtoggkfapdomhgaaDoor.Pr
theorem chg_shape {P Q : S27} {E : S32} (h : chg P E = some Q) : P.f1 = Q.f1 ∧ P.f2.length = Q.f2.length ∧ P.f3 = Q.f3 ∧ P.f4 = Q.f4 ∧ P.f5 = Q.f5 ∧ P.f6 = Q.f6 ∧ P.f8 = Q.f8 := by
  unfold chg at h
  split at h
  · obtain rfl := Option.some.inj h
    exact ⟨rfl, rfl, rfl, rfl, rfl, rfl, rfl⟩
  · split at h
    · split at h
      · split at h
        · obtain rfl := Option.some.inj h
          exact ⟨rfl, rfl, rfl, rfl, rfl, rfl, rfl⟩
        · obtain rfl := Option.some.inj h
          exact ⟨rfl, rfl, rfl, rfl, rfl, rfl, rfl⟩
      · cases h
    · split at h
      · split at h
        · split at h
          · obtain rfl := Option.some.inj h
            exact ⟨rfl, by simp, rfl, rfl, rfl, rfl, rfl⟩
          · split at h
            · split at h
              · obtain rfl := Option.some.inj h
                exact ⟨rfl, rfl, rfl, rfl, rfl, rfl, rfl⟩
              · obtain rfl := Option.some.inj h
                exact ⟨rfl, rfl, rfl, rfl, rfl, rfl, rfl⟩
            · cases h
        · cases h
      · cases h
theorem getD_mem {l : List S30} {j : Nat} (hj : j < l.length) : l.getD j z30 ∈ l := by
  rw [List.getD_eq_getElem?_getD, List.getElem?_eq_getElem hj]
  exact List.getElem_mem _
theorem idx_none {P Q : S27} {n : Nat} {l : List Int} (h : Idx P Q n l) (hk : ∀ j, j < n → Q.f9.getD j z30 ∈ P.f9) : l = [] := by
  cases l with
  | nil => rfl
  | cons a r =>
    obtain ⟨j, _, hj, hn⟩ := h.2.2 a List.mem_cons_self
    exact absurd (hk j hj) hn
theorem idx_only {P Q : S27} {n : Nat} {l : List Int} (h : Idx P Q n l) (k : Nat) (hk : ∀ j, j < n → j ≠ k → Q.f9.getD j z30 ∈ P.f9) : l = [] ∨ l = [(k : Int)] := by
  have he : ∀ a, a ∈ l → a = (k : Int) := fun a ha => by
    obtain ⟨j, rfl, hj, hn⟩ := h.2.2 a ha
    by_cases hjk : j = k
    · rw [hjk]
    · exact absurd (hk j hj hjk) hn
  cases l with
  | nil => exact .inl rfl
  | cons a r =>
    right
    have ha := he a List.mem_cons_self
    cases r with
    | nil => rw [ha]
    | cons b s =>
      have hb := he b (by simp)
      have := (List.pairwise_cons.1 h.2.1).1 b (by simp)
      omega
/-- Initial states: the lists' lengths part, the rules are the same. -/
theorem chg_init {P Q : S27} {E : S32} (hs : P.f7.Pairwise (· < ·)) (h : chg P E = some Q) (hk : E.f0 = 4 ∨ E.f0 = 5) : P.f7.length ≠ Q.f7.length ∧ P.f9 = Q.f9 := by
  unfold chg at h
  rw [if_neg (by omega), if_neg (by omega), if_pos (by omega)] at h
  split at h
  · rw [if_neg (by omega)] at h
    split at h
    · rename_i hc
      have hl := posIn_le P.f7 E.f3
      split at h
      · rename_i h5
        obtain rfl := Option.some.inj h
        refine ⟨?_, rfl⟩
        have hcc : P.f7.contains E.f3 = true := by rw [hc]; simpa using h5
        have hd := congrArg List.length (sorted_take_drop P.f7 E.f3 hs hcc)
        simp at hd ⊢
        omega
      · obtain rfl := Option.some.inj h
        refine ⟨?_, rfl⟩
        simp
        omega
    · cases h
  · cases h
theorem chg_name {P Q : S27} {E : S32} (h : chg P E = some Q) (hk : E.f0 = 6) : P.f7 = Q.f7 ∧ P.f9 = Q.f9 := by
  unfold chg at h
  rw [if_neg (by omega), if_neg (by omega), if_pos (by omega)] at h
  split at h
  · obtain rfl := Option.some.inj h
    exact ⟨rfl, rfl⟩
  · cases h
theorem chg_add {P Q : S27} {E : S32} (h : chg P E = some Q) (hk : E.f0 = 1) : P.f7 = Q.f7 ∧ P.f9.length ≠ Q.f9.length ∧ ∀ j, j < Q.f9.length → j ≠ P.f9.length → Q.f9.getD j z30 ∈ P.f9 := by
  unfold chg at h
  try rw [if_pos hk] at h
  obtain rfl := Option.some.inj h
  refine ⟨rfl, by simp, fun j hj hne => ?_⟩
  have hj2 : j < P.f9.length + 1 := by simpa using hj
  have hj3 : j < P.f9.length := by omega
  show (P.f9 ++ [E.f2]).getD j z30 ∈ P.f9
  rw [List.getD_eq_getElem?_getD, List.getElem?_append_left hj3, ← List.getD_eq_getElem?_getD]
  exact getD_mem hj3
theorem chg_set {P Q : S27} {E : S32} (h : chg P E = some Q) (hk : E.f0 = 2) : P.f7 = Q.f7 ∧ ∀ j, j < Q.f9.length → j ≠ E.f1.toNat → Q.f9.getD j z30 ∈ P.f9 := by
  unfold chg at h
  rw [if_neg (by omega), if_pos (by omega)] at h
  split at h
  · obtain rfl := Option.some.inj h
    refine ⟨rfl, fun j hj hne => ?_⟩
    have hj2 : j < P.f9.length := by simpa using hj
    show (P.f9.set E.f1.toNat E.f2).getD j z30 ∈ P.f9
    rw [List.getD_eq_getElem?_getD, List.getElem?_set_ne (by omega), ← List.getD_eq_getElem?_getD]
    exact getD_mem hj2
  · cases h
theorem chg_del {P Q : S27} {E : S32} (h : chg P E = some Q) (hk : E.f0 = 3) : P.f7 = Q.f7 ∧ P.f9.length ≠ Q.f9.length ∧ ∀ j, j < Q.f9.length → Q.f9.getD j z30 ∈ P.f9 := by
  unfold chg at h
  rw [if_neg (by omega), if_pos (by omega)] at h
  split at h
  · rename_i hr
    rw [if_neg (by omega)] at h
    obtain rfl := Option.some.inj h
    refine ⟨rfl, by simp; omega, fun j hj => ?_⟩
    have := getD_mem hj
    rcases List.mem_append.1 this with h1 | h1
    · exact List.mem_of_mem_take h1
    · exact List.mem_of_mem_drop h1
  · cases h
end Go.Proofs.YtoggkfapdomhgaaDoor.Pr
