/- Rows that are written in place, and slices.Delete at rules; conditions: each theorem's own premises. -/
import Derived.Test.YtoggkfapdomhgaaDoorEv
import Derived.Lib.SliceRun
import Derived.Deep.RegionLaw
import Derived.Deep.LoopGhost
namespace Go.Proofs.YtoggkfapdomhgaaDoor.Pr
open Go.RowKit Go.Proofs.YtoggkfapdomhgaaDoorW.PrintWords Go.Proofs.YtoggkfapdomhgaaDoorW.PrintLast Go.Proofs.YtoggkfapdomhgaaDoorW.PrintMore
set_option linter.unusedVariables false
set_option linter.unusedSimpArgs false
set_option maxRecDepth 100000
theorem reps_of_get {α : Type} {R : α → List Value → Prop} {size : Nat} {ps : List α} {cs : List Value} (hl : cs.length = ps.length * size) (h : ∀ j p, ps[j]? = some p → ∃ c, c.length = size ∧ R p c ∧ ∀ t u, c[t]? = some u → cs[j * size + t]? = some u) : Reps R size ps cs := by
  refine ⟨hl, fun j p hj => ?_⟩
  obtain ⟨c, hc, hR, hg⟩ := h j p hj
  have : (cs.drop (j * size)).take size = c := by
    apply List.ext_getElem?
    intro t
    by_cases ht : t < size
    · rw [List.getElem?_take, if_pos ht, List.getElem?_drop, hg t (c[t]'(by omega)) (List.getElem?_eq_getElem (by omega)), List.getElem?_eq_getElem (by omega)]
    · rw [List.getElem?_take, if_neg ht, List.getElem?_eq_none (by omega)]
  rw [this]
  exact hR
section
variable {α : Type} {d : Kd α} {e : Nat} {w w1 : World} {base q n cap : Nat} {ok okp : Nat → Prop} {xs ys : List α}
/-- A row's block, seen cell by cell. -/
theorem R_view (h : d.R e w base ok (.slice (some ⟨q, 0, none⟩) n cap) xs) : ok q ∧ xs.length = n ∧ base ≤ q ∧ n ≤ cap ∧ cap ≤ maxLen ∧ ∃ cur, w.heap[q]? = some (.cells cur e (0, 0)) ∧ cur.size = cap * d.sz ∧
    ∀ j p, xs[j]? = some p → ∃ c, c.length = d.sz ∧ d.M w base (fun k => ok k ∧ k ≠ q) p c ∧ ∀ t u, c[t]? = some u → cur[j * d.sz + t]? = some u := by
  obtain ⟨h0, inner, ⟨hl, ho⟩, hr⟩ := h
  rcases ho with ⟨he, _⟩ | ⟨g, cap', cur, he, hb, hh, hle, hmx, hsz, htk⟩
  · cases he
  · cases he
    refine ⟨h0 q rfl, rfl, hb, hle, hmx, cur, hh, hsz, fun j p hj => ?_⟩
    have hjl := (List.getElem?_eq_some_iff.1 hj).1
    have hm : (j + 1) * d.sz ≤ xs.length * d.sz := Nat.mul_le_mul_right _ hjl
    rw [Nat.succ_mul] at hm
    have hlen : ((inner.drop (j * d.sz)).take d.sz).length = d.sz := by
      rw [List.length_take, List.length_drop, hl]
      omega
    refine ⟨_, hlen, d.M_mono (fun k hk => ⟨hk.1, fun e => hk.2 (by rw [e]; rfl)⟩) (hr.2 j p hj), fun t u hu => ?_⟩
    have ht := (List.getElem?_eq_some_iff.1 hu).1
    rw [hlen] at ht
    rw [List.getElem?_take, if_pos ht, List.getElem?_drop, ← htk, List.getElem?_take, if_pos (by omega), Array.getElem?_toList] at hu
    exact hu
theorem R_mk {cur : Array Value} (h0 : ok q) (hn : ys.length = n) (hb : base ≤ q) (hle : n ≤ cap) (hmx : cap ≤ maxLen) (hq : w.heap[q]? = some (.cells cur e (0, 0))) (hsz : cur.size = cap * d.sz)
    (hy : ∀ j p, ys[j]? = some p → ∃ c, c.length = d.sz ∧ d.M w base (fun k => ok k ∧ k ≠ q) p c ∧ ∀ t u, c[t]? = some u → cur[j * d.sz + t]? = some u) : d.R e w base ok (.slice (some ⟨q, 0, none⟩) n cap) ys := by
  subst hn
  have hm : ys.length * d.sz ≤ cap * d.sz := Nat.mul_le_mul_right _ hle
  have hlen : (cur.toList.take (ys.length * d.sz)).length = ys.length * d.sz := by
    have hcl : cur.toList.length = cap * d.sz := by simpa using hsz
    rw [List.length_take, hcl]
    omega
  refine ⟨fun k hk => ?_, cur.toList.take (ys.length * d.sz), ⟨hlen, .inr ⟨q, cap, cur, rfl, hb, hq, hle, hmx, hsz, rfl⟩⟩, reps_of_get hlen fun j p hj => ?_⟩
  · have : q = k := by simpa [Value.ownBlock] using hk
    rw [← this]
    exact h0
  · obtain ⟨c, hc, hM, hg⟩ := hy j p hj
    have hjl := (List.getElem?_eq_some_iff.1 hj).1
    have hm2 : (j + 1) * d.sz ≤ ys.length * d.sz := Nat.mul_le_mul_right _ hjl
    rw [Nat.succ_mul] at hm2
    refine ⟨c, hc, d.M_mono (fun k hk => ⟨hk.1, fun e => hk.2 (by simpa [Value.ownBlock] using e)⟩) hM, fun t u hu => ?_⟩
    have ht := (List.getElem?_eq_some_iff.1 hu).1
    rw [List.getElem?_take, if_pos (by omega), Array.getElem?_toList]
    exact hg t u hu
/-- One element is written anew. -/
theorem R_setrow (h : d.R e w base ok (.slice (some ⟨q, 0, none⟩) n cap) xs) (i : Nat) (hi : i < n) (x : α) (cs : List Value) (hx : d.M w base okp x cs) (hokp : ∀ k, okp k → ok k ∧ k ≠ q) :
    d.R e (w.setCells q (i * d.sz) cs) base ok (.slice (some ⟨q, 0, none⟩) n cap) (xs.set i x) := by
  obtain ⟨h0, hn, hb, hle, hmx, cur, hh, hsz, hv⟩ := R_view h
  have hcs := d.K_len (d.K_of_M hx)
  obtain ⟨c', q1, q2, q3, q4, q5⟩ := sets_spec q e cs (i * d.sz) w cur hh
  have hmv : ∀ {p c} {o : Nat → Prop}, d.M w base o p c → (∀ k, o k → ok k ∧ k ≠ q) → d.M (w.setCells q (i * d.sz) cs) base (fun k => ok k ∧ k ≠ q) p c := fun hM ho => d.M_mono ho (d.M_move (fun k hk => q4 k (ho k hk).2) hM)
  have hi2 : (i + 1) * d.sz ≤ cap * d.sz := Nat.mul_le_mul_right _ (by omega)
  rw [Nat.succ_mul] at hi2
  refine R_mk h0 (by rw [List.length_set]; exact hn) hb hle hmx q1 (by rw [q2, hsz]) fun j p hj => ?_
  by_cases hji : j = i
  · subst hji
    rw [List.getElem?_set_self (by omega)] at hj
    obtain rfl := Option.some.inj hj
    refine ⟨cs, hcs, hmv hx hokp, fun t u hu => ?_⟩
    have ht := (List.getElem?_eq_some_iff.1 hu).1
    rw [q3 _ (by omega), if_pos (by omega), Nat.add_sub_cancel_left]
    exact hu
  · rw [List.getElem?_set_ne (by omega)] at hj
    obtain ⟨c, hc, hM, hg⟩ := hv j p hj
    refine ⟨c, hc, hmv hM (fun _ hk => hk), fun t u hu => ?_⟩
    have ht := (List.getElem?_eq_some_iff.1 hu).1
    have hu2 := hg t u hu
    have hlt := (Array.getElem?_eq_some_iff.1 hu2).1
    have hap : ¬ (i * d.sz ≤ j * d.sz + t ∧ j * d.sz + t < i * d.sz + cs.length) := by
      rcases Nat.lt_or_gt_of_ne hji with hx | hx
      · have : (j + 1) * d.sz ≤ i * d.sz := Nat.mul_le_mul_right _ hx
        rw [Nat.succ_mul] at this
        omega
      · have : (i + 1) * d.sz ≤ j * d.sz := Nat.mul_le_mul_right _ hx
        rw [Nat.succ_mul] at this
        omega
    rw [q3 _ hlt, if_neg hap]
    exact hu2
/-- One element is taken out: those behind it are moved, the last place is written over. -/
theorem R_delrow (h : d.R e w base ok (.slice (some ⟨q, 0, none⟩) n cap) xs) (i : Nat) (hi : i < n) (news zs : List Value) (hnl : news.length = (n - (i + 1)) * d.sz) (hzl : zs.length = d.sz)
    (hnews : ∀ cur, w.heap[q]? = some (.cells cur e (0, 0)) → ∀ t, t < news.length → news[t]? = cur[(i + 1) * d.sz + t]?) :
    d.R e ((w.setCells q (i * d.sz) news).setCells q ((n - 1) * d.sz) zs) base ok (.slice (some ⟨q, 0, none⟩) (n - 1) cap) (xs.take i ++ xs.drop (i + 1)) ∧
      (∀ k, k ≠ q → ((w.setCells q (i * d.sz) news).setCells q ((n - 1) * d.sz) zs).heap[k]? = w.heap[k]?) ∧ (∀ B w0, Below B w0 w → B ≤ q → Below B w0 ((w.setCells q (i * d.sz) news).setCells q ((n - 1) * d.sz) zs)) := by
  obtain ⟨h0, hn, hb, hle, hmx, cur, hh, hsz, hv⟩ := R_view h
  have hN := hnews cur hh
  obtain ⟨c1, a1, a2, a3, a4, a5⟩ := sets_spec q e news (i * d.sz) w cur hh
  obtain ⟨c2, b1, b2, b3, b4, b5⟩ := sets_spec q e zs ((n - 1) * d.sz) _ c1 a1
  have hot : ∀ k, k ≠ q → ((w.setCells q (i * d.sz) news).setCells q ((n - 1) * d.sz) zs).heap[k]? = w.heap[k]? := fun k hk => (b4 k hk).trans (a4 k hk)
  refine ⟨?_, hot, fun B w0 hB hq => b5 B w0 (a5 B w0 hB hq) hq⟩
  have m1 : (n - 1 + 1) * d.sz ≤ cap * d.sz := Nat.mul_le_mul_right _ (by omega)
  have m2 : (n - (i + 1)) * d.sz + i * d.sz = (n - 1) * d.sz := by rw [← Nat.add_mul]; congr 1; omega
  rw [Nat.succ_mul] at m1
  refine R_mk h0 (by simp; omega) hb (by omega) hmx b1 (by rw [b2, a2, hsz]) fun j p hj => ?_
  have hjl := (List.getElem?_eq_some_iff.1 hj).1
  have hjn : j < n - 1 := by simp at hjl; omega
  have m3 : (j + 1) * d.sz ≤ (n - 1) * d.sz := Nat.mul_le_mul_right _ hjn
  rw [Nat.succ_mul] at m3
  have src : ∃ j', xs[j']? = some p ∧ ∀ t, t < d.sz → c2[j * d.sz + t]? = cur[j' * d.sz + t]? := by
    by_cases hji : j < i
    · have m4 : (j + 1) * d.sz ≤ i * d.sz := Nat.mul_le_mul_right _ hji
      rw [Nat.succ_mul] at m4
      refine ⟨j, ?_, fun t ht => ?_⟩
      · rw [List.getElem?_append_left (by simp; omega), List.getElem?_take, if_pos hji] at hj
        exact hj
      · rw [b3 _ (by omega), if_neg (by omega), a3 _ (by omega), if_neg (by omega)]
    · have m4 : i * d.sz ≤ j * d.sz := Nat.mul_le_mul_right _ (by omega)
      refine ⟨j + 1, ?_, fun t ht => ?_⟩
      · have hl : (xs.take i).length = i := by rw [List.length_take]; omega
        rw [List.getElem?_append_right (by omega), hl, List.getElem?_drop, show i + 1 + (j - i) = j + 1 by omega] at hj
        exact hj
      · rw [b3 _ (by omega), if_neg (by omega), a3 _ (by omega), if_pos (by omega), hN _ (by omega)]
        congr 1
        rw [Nat.succ_mul, Nat.succ_mul]
        omega
  obtain ⟨j', hj', hsrc⟩ := src
  obtain ⟨c, hc, hM, hg⟩ := hv j' p hj'
  refine ⟨c, hc, d.M_move (fun k hk => hot k hk.2) hM, fun t u hu => ?_⟩
  have ht := (List.getElem?_eq_some_iff.1 hu).1
  rw [hsrc t (by omega)]
  exact hg t u hu
end
end Go.Proofs.YtoggkfapdomhgaaDoor.Pr
