/- What a valid family's initial states are, and sizes of families and rules. Conditions: each theorem's own premises. -/
import Derived.Test.YtoggkfapdomhgaaDoorHl
import Derived.Test.YtoggkfapdomhgaaDoorHq
import Derived.Test.YtoggkfapdomhgaaDoorFm
namespace Go.Proofs.YtoggkfapdomhgaaDoor.Pr
theorem steps_pairwise : ∀ (l : List Int), (∀ i, i + 1 < l.length → l.getD i 0 < l.getD (i + 1) 0) → l.Pairwise (· < ·)
  | [], _ => List.Pairwise.nil
  | [a], _ => by simp
  | a :: b :: r, h => by
    have ih := steps_pairwise (b :: r) (fun i hi => by have := h (i + 1) (by simpa using hi); simpa using this)
    have hab : a < b := by have := h 0 (by simp); simpa using this
    rw [List.pairwise_cons]
    refine ⟨fun x hx => ?_, ih⟩
    rcases List.mem_cons.1 hx with rfl | hx
    · exact hab
    · have := (List.pairwise_cons.1 ih).1 x hx
      omega
theorem setE_sorted {l : List Int} {n : Int} (h : setE l n = 0) : l.Pairwise (· < ·) := by
  unfold setE at h
  split at h
  · refine steps_pairwise l fun i hi => ?_
    have := scan_zero _ _ _ h i (by omega)
    have := (when_zero (by decide)).1 this
    have := of_decide_eq_false this
    rw [Nat.zero_add] at this
    omega
  · contradiction
theorem validE_sorted {P : S27} (h : validE P = 0) : P.f7.Pairwise (· < ·) ∧ P.f7 ≠ [] := by
  unfold validE at h
  split at h
  · unfold valB at h
    split at h
    · omega
    split at h
    · omega
    split at h
    · omega
    split at h
    · split at h
      · omega
      split at h
      · split at h
        · rename_i hs
          unfold setsE firstE at hs
          have h0 := scan_zero _ _ _ hs 0 (by simp)
          have h1 := scan_zero _ _ _ hs 1 (by simp)
          simp at h0 h1
          refine ⟨setE_sorted h0, fun he => ?_⟩
          rw [he] at h1
          simp [whenE] at h1
        · contradiction
      · contradiction
    · contradiction
  · omega
/-- Not much larger than a small family. -/
structure Mid (n : Nat) (P : S27) : Prop where
  h2 : P.f2.length ≤ 60
  h3 : P.f3.length ≤ 60
  h4 : P.f4.length ≤ 60
  h6 : P.f6.length ≤ 60
  h7 : P.f7.length ≤ 60 + n
  h8 : P.f8.length ≤ 60
  h9 : P.f9.length ≤ 30 + n
  hr : ∀ r, r ∈ P.f9 → ShortR r
theorem mid_of {P : S27} (h : ShortP P) (hr : ∀ i, i < P.f9.length → ShortR (P.f9.getD i z30)) : Mid 0 P := by
  obtain ⟨a, b, c, d, e, f, g⟩ := h
  refine ⟨a, b, c, d, e, f, g, fun r hm => ?_⟩
  obtain ⟨i, hi, rfl⟩ := List.getElem_of_mem hm
  have := hr i hi
  rwa [List.getD_eq_getElem?_getD, List.getElem?_eq_getElem hi] at this
theorem short_sum {R : S30} (h : ShortR R) : ruleSum R ≤ 1000000 := by
  obtain ⟨a, b, c, d, e, f, g, i⟩ := h
  unfold ruleSum
  omega
theorem thr_sum : ∀ (l : List S30), (∀ r, r ∈ l → ShortR r) → thrSum l ≤ 60 * l.length
  | [], _ => by simp [thrSum]
  | a :: r, h => by
    have ih := thr_sum r (fun x hx => h x (List.mem_cons_of_mem _ hx))
    have := (h a List.mem_cons_self).2.1
    unfold thrSum at ih ⊢
    simp only [List.map_cons, List.flatten_cons, List.length_append, List.length_cons]
    omega
theorem mid_get {n : Nat} {P : S27} (h : Mid n P) (i : Nat) (hi : i < P.f9.length) : ShortR (P.f9.getD i z30) := by
  rw [List.getD_eq_getElem?_getD, List.getElem?_eq_getElem hi]
  exact h.hr _ (List.getElem_mem _)
theorem mid_small {n : Nat} {P : S27} (h : Mid n P) (hn : n ≤ 10) : Small P :=
  ⟨fun i hi => short_sum (mid_get h i hi), by have := thr_sum P.f9 h.hr; have := h.h9; omega⟩
theorem mid_tame {n : Nat} {P : S27} (h : Mid n P) (hn : n ≤ 10) : Tame P :=
  ⟨by have := h.h2; omega, by have := h.h3; omega, by have := h.h4; omega, by have := h.h6; omega, by have := h.h7; omega, by have := h.h8; omega, by have := h.h9; omega, fun i hi => short_sum (mid_get h i hi)⟩
theorem mid_chg {n : Nat} {P Q : S27} {E : S32} (h : Mid n P) (hE : ShortR E.f2) (hc : chg P E = some Q) : Mid (n + 1) Q := by
  obtain ⟨h2, h3, h4, h6, h7, h8, h9, hr⟩ := h
  unfold chg at hc
  split at hc
  · obtain rfl := Option.some.inj hc
    refine ⟨h2, h3, h4, h6, Nat.le_trans h7 (by omega), h8, by simp; omega, fun r hm => ?_⟩
    rcases List.mem_append.1 hm with hm | hm
    · exact hr r hm
    · rw [List.mem_singleton.1 hm]; exact hE
  · split at hc
    · split at hc
      · split at hc
        · obtain rfl := Option.some.inj hc
          refine ⟨h2, h3, h4, h6, Nat.le_trans h7 (by omega), h8, by simp; omega, fun r hm => ?_⟩
          rcases List.mem_or_eq_of_mem_set hm with hm | rfl
          · exact hr r hm
          · exact hE
        · obtain rfl := Option.some.inj hc
          refine ⟨h2, h3, h4, h6, Nat.le_trans h7 (by omega), h8, by simp; omega, fun r hm => ?_⟩
          rcases List.mem_append.1 hm with hm | hm
          · exact hr r (List.mem_of_mem_take hm)
          · exact hr r (List.mem_of_mem_drop hm)
      · cases hc
    · split at hc
      · split at hc
        · split at hc
          · obtain rfl := Option.some.inj hc
            exact ⟨by simpa using h2, h3, h4, h6, Nat.le_trans h7 (by omega), h8, Nat.le_trans h9 (by omega), hr⟩
          · split at hc
            · split at hc
              · obtain rfl := Option.some.inj hc
                exact ⟨h2, h3, h4, h6, by simp; omega, h8, Nat.le_trans h9 (by omega), hr⟩
              · obtain rfl := Option.some.inj hc
                exact ⟨h2, h3, h4, h6, by simp; omega, h8, Nat.le_trans h9 (by omega), hr⟩
            · cases hc
        · cases hc
      · cases hc
theorem short_back {n : Nat} {P : S27} {E : S32} (h : Mid n P) (hz : ShortR z30) : ShortR (backOf P z30 E).f2 := by
  have hg : ∀ i : Int, ShortR (P.f9.getD i.toNat z30) := fun i => by
    rcases Nat.lt_or_ge i.toNat P.f9.length with hi | hi
    · exact mid_get h _ hi
    · rw [List.getD_eq_getElem?_getD, List.getElem?_eq_none hi]; exact hz
  unfold backOf
  repeat' split
  all_goals first | exact hg _ | exact hz
end Go.Proofs.YtoggkfapdomhgaaDoor.Pr
