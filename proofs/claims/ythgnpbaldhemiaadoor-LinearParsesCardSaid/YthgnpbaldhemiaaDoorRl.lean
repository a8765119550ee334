/- The plain law of the specification's ParseRow: what its loop keeps; conditions: each theorem's own premises. -/
import Derived.Test.YthgnpbaldhemiaaDoorRd
import Derived.Test.YthgnpbaldhemiaaDoorRf
namespace Go.Proofs.YthgnpbaldhemiaaDoor.Pr
open Go.RowKit Go.Proofs.YthgnpbaldhemiaaDoorW.PrintWords Go.Proofs.YthgnpbaldhemiaaDoorW.PrintLast Go.Proofs.YthgnpbaldhemiaaDoorW.PrintMore
set_option linter.unusedVariables false
set_option linter.unusedSimpArgs false

def Good (t : ByteArray) (n : Nat) (cs : List Int) (k : Int) : Prop := cs.length = n ∧ smallB cs k = true ∧ rowL cs k = t.data.toList
def Inv (t : ByteArray) (a : Nat) (sign : Int) (cs : List Int) (k : Int) : Prop := ∀ cs0 k0, Good t cs.length cs0 k0 →
  ∃ m r, itemOk cs.length m ∧ (∀ x ∈ r, itemOk cs.length x) ∧ t.data.toList.drop a = itemText m ++ (render false r ++ endS) ∧ sign = itemSgn m ∧ r.foldl refStep (refStep (cs, k) m) = (cs0, k0)
def After (t : ByteArray) (q : Nat) (cs : List Int) (k : Int) : Prop := ∀ cs0 k0, Good t cs.length cs0 k0 →
  ∃ r, (∀ x ∈ r, itemOk cs.length x) ∧ t.data.toList.drop q = render false r ++ endS ∧ r.foldl refStep (cs, k) = (cs0, k0)
theorem rest_head (r : List Item) : ∀ c z, render false r ++ endS = c :: z → c = 32 := by
  intro c z h
  cases r with
  | nil => simp only [render, List.nil_append, endS] at h; exact (List.cons.inj h).1.symm
  | cons x r =>
    cases hx : itemNeg x <;> simp only [render, hx, sep] at h <;> exact (List.cons.inj h).1.symm
theorem ref_fold_terms : ∀ (cs pre : List Int) (k : Int), cs.all inB = true → (terms cs pre.length).foldl refStep (pre ++ List.replicate cs.length 0, k) = (pre ++ cs, k)
  | [], pre, k, _ => by simp [terms]
  | c :: cs, pre, k, h => by
    simp only [List.all_cons, Bool.and_eq_true] at h
    have ih := ref_fold_terms cs (pre ++ [c]) k h.2
    simp only [List.length_append, List.length_singleton] at ih
    simp only [terms]
    have e1 : pre ++ List.replicate (c :: cs).length 0 = pre ++ (0 :: List.replicate cs.length 0) := by simp [List.replicate_succ]
    by_cases hc : c = 0
    · rw [if_pos hc, e1, show pre ++ (0 :: List.replicate cs.length 0) = (pre ++ [c]) ++ List.replicate cs.length 0 by simp [hc], ih]
      simp
    · rw [if_neg hc, e1]
      simp only [List.foldl_cons]
      have hb := (inB_iff c).1 h.1
      have e2 : refStep (pre ++ (0 :: List.replicate cs.length 0), k) (some pre.length, c) = ((pre ++ [c]) ++ List.replicate cs.length 0, k) := by
        simp only [refStep]
        rw [show rd (pre ++ (0 :: List.replicate cs.length 0)) (pre.length : Int) = 0 by simp [rd], Int.zero_add, IntWalk.wrap64_in _ (by omega)]
        simp [List.set_append]
      rw [e2, ih]
      simp
theorem ref_fold_items {cs : List Int} {k : Int} (h : smallB cs k = true) : (items cs k).foldl refStep (List.replicate cs.length 0, 0) = (cs, k) := by
  simp only [smallB, Bool.and_eq_true] at h
  have h0 := ref_fold_terms cs [] 0 h.1
  simp only [List.nil_append, List.length_nil] at h0
  have hb := (inB_iff k).1 h.2
  unfold items
  rw [List.foldl_append, h0]
  split
  · rename_i hk
    simp [hk.1]
  · simp only [List.foldl_cons, List.foldl_nil, refStep]
    rw [Int.zero_add, IntWalk.wrap64_in _ (by omega)]
theorem good_parts {t : ByteArray} {n : Nat} {cs : List Int} {k : Int} (h : Good t n cs k) :
    ∃ m r, itemOk n m ∧ (∀ x ∈ r, itemOk n x) ∧ t.data.toList = sep true (itemNeg m) ++ (itemText m ++ (render false r ++ endS)) ∧ r.foldl refStep (refStep (List.replicate n 0, 0) m) = (cs, k) := by
  obtain ⟨rfl, h2, h3⟩ := h
  have hok := items_ok h2
  have hf := ref_fold_items h2
  have hb := bodyL_render h2
  cases hi : items cs k with
  | nil => exact absurd hi (items_ne cs k)
  | cons m r =>
    rw [hi] at hok hf hb
    refine ⟨m, r, hok m List.mem_cons_self, fun x hx => hok x (List.mem_cons_of_mem _ hx), ?_, hf⟩
    rw [← h3]
    show bodyL cs k ++ endS = _
    rw [hb]
    simp [render]
theorem Inv.neg {t : ByteArray} {n : Nat} (h : bt t 0 = 45) : Inv t 1 (-1) (List.replicate n 0) 0 := by
  intro cs0 k0 hg
  rw [List.length_replicate] at hg ⊢
  obtain ⟨m, r, h1, h2, h3, h4⟩ := good_parts hg
  refine ⟨m, r, h1, h2, ?_, ?_, h4⟩
  all_goals
    cases hn : itemNeg m
    · exfalso
      rw [hn] at h3
      simp only [sep, Bool.false_eq_true, if_true, if_false, List.nil_append] at h3
      cases hc : itemText m with
      | nil => exact itemText_ne h1 hc
      | cons c z =>
        rw [hc] at h3
        obtain ⟨_, g2, _⟩ := bt_drop (t := t) (i := 0) (c := c) (r := z ++ (render false r ++ endS)) (by rw [List.drop_zero, h3]; rfl)
        rw [show ((0 : Nat) : Int) = 0 from rfl, h] at g2
        have := itemText_chars h1 c (by rw [hc]; exact List.mem_cons_self)
        rcases this with g | rfl | rfl
        · omega
        · exact absurd g2 (by decide)
        · exact absurd g2 (by decide)
    · first
      | (rw [h3, hn]; simp [sep]; done)
      | (unfold itemNeg at hn; unfold itemSgn; rw [if_pos (of_decide_eq_true hn)])
theorem Inv.pos {t : ByteArray} {n : Nat} (h : ¬ (0 < t.size ∧ bt t 0 = 45)) : Inv t 0 1 (List.replicate n 0) 0 := by
  intro cs0 k0 hg
  rw [List.length_replicate] at hg ⊢
  obtain ⟨m, r, h1, h2, h3, h4⟩ := good_parts hg
  refine ⟨m, r, h1, h2, ?_, ?_, h4⟩
  all_goals
    cases hn : itemNeg m
    · first
      | (rw [h3, hn]; simp [sep]; done)
      | (unfold itemNeg at hn; unfold itemSgn; rw [if_neg (of_decide_eq_false hn)])
    · exfalso
      rw [hn] at h3
      obtain ⟨g1, g2, _⟩ := bt_drop (t := t) (i := 0) (c := 45) (r := itemText m ++ (render false r ++ endS)) (by rw [List.drop_zero, h3]; rfl)
      exact h ⟨by omega, by rw [show ((0 : Nat) : Int) = 0 from rfl] at g2; rw [g2]; rfl⟩
theorem Inv.read {t : ByteArray} (hs : t.size ≤ 5000) {a : Nat} {sg : Int} {cs cs' : List Int} {k nx k' : Int} {ok : Bool} (hn : cs.length ≤ 96) (h : Inv t a sg cs k) (hr : ReadR t a sg cs k nx ok cs' k') :
    (ok = false → ∀ cs0 k0, ¬ Good t cs.length cs0 k0) ∧ (∀ q : Nat, nx = q → After t q cs' k') := by
  constructor
  · intro ho cs0 k0 hg
    obtain ⟨m, r, h1, h2, h3, rfl, h5⟩ := h cs0 k0 hg
    obtain ⟨g1, _⟩ := read_good hs hn h1 (rest_head r) h3 hr
    rw [g1] at ho
    cases ho
  · intro q hq cs0 k0 hg
    rw [(hr.any hs).1] at hg ⊢
    obtain ⟨m, r, h1, h2, h3, rfl, h5⟩ := h cs0 k0 hg
    obtain ⟨g1, g2, g3⟩ := read_good hs hn h1 (rest_head r) h3 hr
    refine ⟨r, h2, ?_, by rw [g3]; exact h5⟩
    have : q = a + (itemText m).length := by omega
    rw [this, ← List.drop_drop, h3, List.drop_left]
theorem After.done {t : ByteArray} {q : Nat} {cs cs0 : List Int} {k k0 : Int} (h : After t q cs k) (he : t.data.toList.drop q = endS) (hg : Good t cs.length cs0 k0) : cs0 = cs ∧ k0 = k := by
  obtain ⟨r, h1, h2, h3⟩ := h cs0 k0 hg
  cases r with
  | nil =>
    simp only [List.foldl_nil, Prod.mk.injEq] at h3
    exact ⟨h3.1.symm, h3.2.symm⟩
  | cons x r =>
    exfalso
    rw [he] at h2
    have := congrArg List.length h2
    simp only [render, List.length_append] at this
    have hne : 0 < (sep false (itemNeg x)).length := by cases itemNeg x <;> simp [sep]
    omega
theorem After.more {t : ByteArray} {q : Nat} {cs cs0 : List Int} {k k0 : Int} (h : After t q cs k) (he : t.data.toList.drop q ≠ endS) (hg : Good t cs.length cs0 k0) :
    ∃ x r, itemOk cs.length x ∧ (∀ y ∈ r, itemOk cs.length y) ∧ t.data.toList.drop q = sep false (itemNeg x) ++ (itemText x ++ (render false r ++ endS)) ∧ r.foldl refStep (refStep (cs, k) x) = (cs0, k0) := by
  obtain ⟨r, h1, h2, h3⟩ := h cs0 k0 hg
  cases r with
  | nil => exact absurd h2 he
  | cons x r => exact ⟨x, r, h1 x List.mem_cons_self, fun y hy => h1 y (List.mem_cons_of_mem _ hy), by rw [h2]; simp [render], h3⟩
theorem sep_at {t : ByteArray} {q : Nat} {b : Bool} {z : List UInt8} (h : t.data.toList.drop q = sep false b ++ z) :
    q + 3 ≤ t.size ∧ bt t q = 32 ∧ bt t ((q + 1 : Nat) : Int) = (if b then 45 else 43) ∧ bt t ((q + 2 : Nat) : Int) = 32 ∧ t.data.toList.drop (q + 3) = z := by
  have key : ∀ c : UInt8, t.data.toList.drop q = 32 :: c :: 32 :: z → q + 3 ≤ t.size ∧ bt t q = 32 ∧ bt t ((q + 1 : Nat) : Int) = c.toNat ∧ bt t ((q + 2 : Nat) : Int) = 32 ∧ t.data.toList.drop (q + 3) = z := by
    intro c h
    obtain ⟨a1, a2, a3⟩ := bt_drop h
    obtain ⟨b1, b2, b3⟩ := bt_drop a3
    obtain ⟨c1, c2, c3⟩ := bt_drop b3
    exact ⟨by omega, a2, b2, c2, c3⟩
  cases b
  · exact key 43 h
  · exact key 45 h
theorem After.sep {t : ByteArray} {q : Nat} {cs : List Int} {k : Int} (h : After t q cs k) (he : t.data.toList.drop q ≠ endS)
    (hn : ¬ (q + 3 ≤ t.size ∧ bt t q = 32 ∧ (bt t ((q + 1 : Nat) : Int) = 43 ∨ bt t ((q + 1 : Nat) : Int) = 45) ∧ bt t ((q + 2 : Nat) : Int) = 32)) : ∀ cs0 k0, ¬ Good t cs.length cs0 k0 := by
  intro cs0 k0 hg
  obtain ⟨x, r, h1, h2, h3, h4⟩ := h.more he hg
  obtain ⟨a1, a2, a3, a4, a5⟩ := sep_at h3
  refine hn ⟨a1, a2, ?_, a4⟩
  cases hx : itemNeg x <;> rw [hx] at a3
  · exact .inl a3
  · exact .inr a3
theorem After.next {t : ByteArray} {q : Nat} {cs : List Int} {k sg : Int} (h : After t q cs k) (he : t.data.toList.drop q ≠ endS) (hsg : (bt t ((q + 1 : Nat) : Int) = 45 ∧ sg = -1) ∨ (bt t ((q + 1 : Nat) : Int) ≠ 45 ∧ sg = 1)) : Inv t (q + 3) sg cs k := by
  intro cs0 k0 hg
  obtain ⟨x, r, h1, h2, h3, h4⟩ := h.more he hg
  obtain ⟨a1, a2, a3, a4, a5⟩ := sep_at h3
  refine ⟨x, r, h1, h2, a5, ?_, h4⟩
  cases hx : itemNeg x <;> rw [hx] at a3
  · rcases hsg with ⟨g, _⟩ | ⟨_, g⟩
    · rw [a3] at g; exact absurd g (by decide)
    · unfold itemNeg at hx; unfold itemSgn; rw [if_neg (of_decide_eq_false hx), g]
  · rcases hsg with ⟨_, g⟩ | ⟨g, _⟩
    · unfold itemNeg at hx; unfold itemSgn; rw [if_pos (of_decide_eq_true hx), g]
    · exact absurd a3 g
/-! ### what is returned -/
theorem parse_good {t : ByteArray} {n : Nat} {cs : List Int} {k : Int} (hn : n ≤ 96) (h : Good t n cs k) : parseF n t.data.toList = (cs, k, 0) := by
  obtain ⟨rfl, h2, h3⟩ := h
  rw [← h3]
  exact parse_row hn h2
theorem parse_bad {t : ByteArray} {n : Nat} (hn : n ≤ 96) (hs : t.size ≤ 4000) (h : ∀ cs k, ¬ Good t n cs k) : parseF n t.data.toList = ([], 0, 3) := by
  rcases hp : parseF n t.data.toList with ⟨cs, k, e⟩
  by_cases he : e = 0
  · subst he
    obtain ⟨h1, h2, h3, h4⟩ := parse_back hp
    exact absurd ⟨by omega, h3, h4⟩ (h cs k)
  · unfold parseF at hp
    rw [if_neg (by omega), if_neg (by rw [data_len]; omega)] at hp
    split at hp
    · unfold lastF at hp
      split at hp
      · rw [← hp]
      · split at hp
        · simp only [Prod.mk.injEq] at hp
          exact absurd hp.2.2.symm he
        · rw [← hp]
    · rw [← hp]
theorem After.row {t : ByteArray} {q : Nat} {cs : List Int} {k : Int} (h : After t q cs k) (he : t.data.toList.drop q = endS) (hb : ¬ (smallB cs k = true ∧ rowL cs k = t.data.toList)) : ∀ cs0 k0, ¬ Good t cs.length cs0 k0 := by
  intro cs0 k0 hg
  obtain ⟨rfl, rfl⟩ := h.done he hg
  exact hb ⟨hg.2.1, hg.2.2⟩
end Go.Proofs.YthgnpbaldhemiaaDoor.Pr
