/- Contracts of the small functions that Validate calls: first, when, index, set, responses, value, fits, bounded; conditions: each theorem's own premises. -/
import Derived.Test.YtoggkfapdomhgaaDoorHd
namespace Go.Proofs.YtoggkfapdomhgaaDoor.Pr
open Go.RowKit Go.Proofs.YtoggkfapdomhgaaDoorW.PrintWords Go.Proofs.YtoggkfapdomhgaaDoorW.PrintLast Go.Proofs.YtoggkfapdomhgaaDoorW.PrintMore
set_option linter.unusedVariables false
set_option linter.unusedSimpArgs false
set_option maxRecDepth 100000
/-- The first number that is not 0. -/
def scan (f : Nat → Int) : Nat → Nat → Int
  | 0, _ => 0
  | b + 1, i => if f i = 0 then scan f b (i + 1) else f i
theorem scan_zero (f : Nat → Int) : ∀ b i, scan f b i = 0 → ∀ j, j < b → f (i + j) = 0
  | 0, _, _, j, hj => by omega
  | b + 1, i, h, j, hj => by
    unfold scan at h
    split at h
    · rename_i h0
      cases j with
      | zero => exact h0
      | succ j =>
        have := scan_zero f b (i + 1) h j (by omega)
        rwa [show i + 1 + j = i + (j + 1) by omega] at this
    · rename_i h0
      exact absurd h h0
def whenE (b : Bool) (e : Int) : Int := if b then e else 0
def idxE (i n : Int) : Int := whenE (decide (i < 0) || decide (n ≤ i)) 5
def firstE (l : List Int) : Int := scan (fun i => l.getD i 0) l.length 0
def setA (l : List Int) (n : Int) : Int := scan (fun i => idxE (l.getD i 0) n) l.length 0
def setB (l : List Int) : Int := scan (fun i => whenE (decide (l.getD (i + 1) 0 ≤ l.getD i 0)) 1) (l.length - 1) 0
def setE (l : List Int) (n : Int) : Int := if setA l n = 0 then setB l else setA l n
def respE (l : List Int) (n : Int) : Int := if (l.length : Int) = n then setA l n else 1
theorem at_I {w : World} {A : Option Addr} {n : Nat} {l : List Int} {k : IntKind} (h : Kd.C (Kd.int k) w A n l) (i : Nat) (hi : i < n) : ∃ ad, A = some ad ∧ w.cell? (ad.add i) = some (.int k (l.getD i 0)) := by
  obtain ⟨ad, c, e, _, hK, hc⟩ := ReadsRow.get_ h 0 (i : Int) (by omega) (by omega)
  obtain rfl : c = [.int k (l.getD i 0)] := hK
  exact ⟨ad, e, by simpa [Kd.int, Kd.scalar] using hc 0 _ rfl⟩
theorem when_any (b : Bool) (e0 : Int) (w : World) : Calls Tryd.prog 35 #[.bool b, .int .i64 e0] w fun e w' => e = .returned (.int .i64 (whenE b e0)) ∧ w' = w := by
  cases b
  all_goals
    go_enter Tryd.func35, Tryd.ntmps35
    go_wp2_with fail
    go_ret
    exact ⟨rfl, rfl⟩
theorem idx_any (i n : Int) (w : World) : Calls Tryd.prog 57 #[.int .i64 i, .int .i64 n] w fun e w' => e = .returned (.int .i64 (idxE i n)) ∧ w' = w := by
  by_cases h : i < 0
  · have d1 : decide (i < 0) = true := decide_eq_true h
    go_enter Tryd.func57, Tryd.ntmps57
    go_wp2_with fail
    refine (when_any true 5 w).mono ?_
    rintro e w' ⟨rfl, rfl⟩
    go_wp2_with fail
    go_ret
    exact ⟨by unfold idxE; rw [d1]; rfl, rfl⟩
  · have d1 : decide (i < 0) = false := decide_eq_false h
    go_enter Tryd.func57, Tryd.ntmps57
    go_wp2_with fail
    refine (when_any (decide (n ≤ i)) 5 w).mono ?_
    rintro e w' ⟨rfl, rfl⟩
    go_wp2_with fail
    go_ret
    exact ⟨by unfold idxE; rw [d1]; rfl, rfl⟩
set_option maxHeartbeats 1000000 in
theorem first_any (A : Option Addr) (c : Nat) (l : List Int) (w : World) (hC : Kd.C (Kd.int .i64) w A l.length l) : Calls Tryd.prog 22 #[.slice A l.length c] w fun e w' => e = .returned (.int .i64 (firstE l)) ∧ w' = w := by
  have HC := Aside0.mk hC
  have hmax := hC.2.1
  clear hC
  go_enter Tryd.func22, Tryd.ntmps22
  go_wp2_with fail
  go_loopw [7] (fun v7 W => ∃ i : Nat, i ≤ l.length ∧ v7 = .int .i64 i ∧ Aside0 (scan (fun i => l.getD i 0) (l.length - i) i = firstE l) ∧ w = W) (fun v7 _ => l.length - (intOf v7).toNat)
  case atStart => exact ⟨0, Nat.zero_le _, rfl, ⟨rfl⟩, rfl⟩
  case round =>
    obtain ⟨i, hi, rfl, HE, rfl⟩ := hrel
    by_cases hlt : i < l.length
    · obtain ⟨ad, rfl, hx⟩ := at_I HC.out i hlt
      obtain ⟨b, hb⟩ : ∃ b, l.length - i = b + 1 := ⟨l.length - i - 1, by omega⟩
      have HE2 := HE.out
      rw [hb] at HE2
      unfold scan at HE2
      generalize l.getD i 0 = x at hx HE2
      clear HE
      by_cases h0 : x = 0
      · have d0 : (x != 0) = false := bne_eq_false_iff_eq.mpr h0
        rw [if_pos h0] at HE2
        have HE := Aside0.mk HE2
        clear HE2
        go_wp2_with fail
        go_roundw
        case rel => exact ⟨i + 1, by omega, by go_num, ⟨by rw [show l.length - (i + 1) = b by omega]; exact HE.out⟩, by first | rfl | trivial⟩
        case measure => simp [intOf]; omega
      · have d0 : (x != 0) = true := bne_iff_ne.mpr h0
        rw [if_neg h0] at HE2
        have HE := Aside0.mk HE2
        clear HE2
        go_wp2_with fail
        go_ret
        exact ⟨by rw [← HE.out]; rfl, rfl⟩
    · have hi2 : i = l.length := by omega
      subst hi2
      rw [Nat.sub_self] at HE
      go_wp2_with fail
      go_ret
      exact ⟨by rw [← HE.out]; rfl, rfl⟩
theorem scan_step {f : Nat → Int} {b i : Nat} {r : Int} (h : scan f (b + 1) i = r) : (f i = 0 → scan f b (i + 1) = r) ∧ (f i ≠ 0 → f i = r) := by
  unfold scan at h
  exact ⟨fun h0 => by rwa [if_pos h0] at h, fun h0 => by rwa [if_neg h0] at h⟩
theorem when_zero {b : Bool} {e : Int} (he : e ≠ 0) : (whenE b e = 0 → b = false) ∧ (whenE b e ≠ 0 → b = true ∧ whenE b e = e) := by
  cases b
  · exact ⟨fun _ => rfl, fun h => absurd rfl h⟩
  · exact ⟨fun h => absurd h he, fun _ => ⟨rfl, rfl⟩⟩
set_option maxHeartbeats 1000000 in
theorem set_any (A : Option Addr) (c : Nat) (l : List Int) (n : Int) (w : World) (hC : Kd.C (Kd.int .i64) w A l.length l) : Calls Tryd.prog 34 #[.slice A l.length c, .int .i64 n] w fun e w' => e = .returned (.int .i64 (setE l n)) ∧ Below w.heap.size w w' := by
  have HC := Aside0.mk hC
  have hmax := hC.2.1
  clear hC
  go_enter Tryd.func34, Tryd.ntmps34
  go_wp2_with fail
  go_loopw [10] (fun v10 W => ∃ i : Nat, i ≤ l.length ∧ v10 = .int .i64 i ∧ Aside0 (scan (fun i => idxE (l.getD i 0) n) (l.length - i) i = setA l n) ∧ w = W) (fun v10 _ => l.length - (intOf v10).toNat)
  case atStart => exact ⟨0, Nat.zero_le _, rfl, ⟨rfl⟩, rfl⟩
  case round =>
    obtain ⟨i, hi, rfl, HE, rfl⟩ := hrel
    by_cases hlt : i < l.length
    · obtain ⟨ad, rfl, hx⟩ := at_I HC.out i hlt
      obtain ⟨b, hb⟩ : ∃ b, l.length - i = b + 1 := ⟨l.length - i - 1, by omega⟩
      have HE2 := HE.out
      rw [hb] at HE2
      obtain ⟨hz, hn⟩ := scan_step HE2
      generalize l.getD i 0 = x at hx hz hn
      clear HE HE2
      by_cases h0 : x < 0
      · have d1 : decide (x < 0) = true := decide_eq_true h0
        have hi5 : idxE x n = 5 := by unfold idxE; rw [d1]; rfl
        rw [hi5] at hz hn
        have HE := Aside0.mk (hn (by decide))
        clear hz hn
        go_wp2_with fail
        go_ret
        exact ⟨by unfold setE; rw [← HE.out]; rfl, Below.refl _ _⟩
      · have d1 : decide (x < 0) = false := decide_eq_false h0
        by_cases h1 : n ≤ x
        · have d2 : decide (n ≤ x) = true := decide_eq_true h1
          have hi5 : idxE x n = 5 := by unfold idxE; rw [d1, d2]; rfl
          rw [hi5] at hz hn
          have HE := Aside0.mk (hn (by decide))
          clear hz hn
          go_wp2_with fail
          go_ret
          exact ⟨by unfold setE; rw [← HE.out]; rfl, Below.refl _ _⟩
        · have d2 : decide (n ≤ x) = false := decide_eq_false h1
          have hi5 : idxE x n = 0 := by unfold idxE; rw [d1, d2]; rfl
          rw [hi5] at hz hn
          have HE := Aside0.mk (hz rfl)
          clear hz hn
          go_wp2_with fail
          go_roundw
          case rel => exact ⟨i + 1, by omega, by go_num, ⟨by rw [show l.length - (i + 1) = b by omega]; exact HE.out⟩, by first | rfl | trivial⟩
          case measure => simp [intOf]; omega
    · have hi2 : i = l.length := by omega
      subst hi2
      rw [Nat.sub_self] at HE
      have HA : Aside0 (setA l n = 0) := ⟨by rw [← HE.out]; rfl⟩
      clear HE
      go_wp2_with fail
      go_loopw [7] (fun v7 W => ∃ i : Nat, (i + 1 ≤ l.length ∨ i = 0) ∧ v7 = .int .i64 ((i : Int) + 1) ∧ Aside0 (scan (fun i => whenE (decide (l.getD (i + 1) 0 ≤ l.getD i 0)) 1) (l.length - 1 - i) i = setB l) ∧ Aside0 (Below w.heap.size w W)) (fun v7 _ => l.length - (intOf v7).toNat)
      case atStart => exact ⟨0, .inr rfl, rfl, ⟨rfl⟩, ⟨Below.refl _ _⟩⟩
      case round =>
        obtain ⟨i, hi, rfl, HE, HB⟩ := hrel
        by_cases hlt : i + 1 < l.length
        · obtain ⟨ad, rfl, hx0⟩ := at_I HC.out i (by omega)
          obtain ⟨ad1, e1, hx1⟩ := at_I HC.out (i + 1) (by omega)
          obtain rfl := Option.some.inj e1
          obtain ⟨b, hb⟩ : ∃ b, l.length - 1 - i = b + 1 := ⟨l.length - 1 - i - 1, by omega⟩
          have HE2 := HE.out
          rw [hb] at HE2
          obtain ⟨hz, hn⟩ := scan_step HE2
          replace hx0 : wr.cell? (ad.add i) = _ := (HB.out.cell (World.block_lt_of_cell? w _ hx0)).trans hx0
          replace hx1 : wr.cell? (ad.add (i + 1)) = _ := (HB.out.cell (World.block_lt_of_cell? w _ hx1)).trans hx1
          have hx3 : wr.drew.cell? { block := ad.block, off := ad.off + (i + 1) } = some (.int .i64 (l.getD (i + 1) 0)) := hx1
          generalize l.getD i 0 = x at hx0 hz hn
          generalize l.getD (i + 1) 0 = y at hx1 hx3 hz hn
          have hi0 : 0 ≤ (i : Int) + 1 := by omega
          clear HE HE2
          by_cases h0 : y ≤ x
          · have d1 : decide (y ≤ x) = true := decide_eq_true h0
            rw [d1] at hz hn
            have HE := Aside0.mk (hn (by decide))
            clear hz hn
            go_wp2_with fail
            go_region
            go_wp2_with fail
            go_ret
            exact ⟨by unfold setE; rw [if_pos HA.out, ← HE.out]; rfl, HB.out.drew⟩
          · have d1 : decide (y ≤ x) = false := decide_eq_false h0
            rw [d1] at hz hn
            have HE := Aside0.mk (hz rfl)
            clear hz hn
            go_wp2_with fail
            go_region
            go_wp2_with fail
            go_roundw
            case rel => exact ⟨i + 1, .inl (by omega), by go_num, ⟨by rw [show l.length - 1 - (i + 1) = b by omega]; exact HE.out⟩, ⟨HB.out.drew⟩⟩
            case measure => simp [intOf]; omega
        · rw [show l.length - 1 - i = 0 by omega] at HE
          have d1 : decide (((i : Int) + 1) < (l.length : Int)) = false := decide_eq_false (by omega)
          go_wp2_with fail
          go_ret
          exact ⟨by unfold setE; rw [if_pos HA.out, ← HE.out]; rfl, HB.out⟩
set_option maxHeartbeats 1000000 in
theorem resp_any (A : Option Addr) (c : Nat) (l : List Int) (n : Int) (w : World) (hC : Kd.C (Kd.int .i64) w A l.length l) : Calls Tryd.prog 60 #[.slice A l.length c, .int .i64 n] w fun e w' => e = .returned (.int .i64 (respE l n)) ∧ w' = w := by
  have HC := Aside0.mk hC
  have hmax := hC.2.1
  clear hC
  by_cases hn : (l.length : Int) = n
  · have d0 : ((l.length : Int) != n) = false := bne_eq_false_iff_eq.mpr hn
    go_enter Tryd.func60, Tryd.ntmps60
    go_wp2_with fail
    go_loopw [14] (fun v14 W => ∃ i : Nat, i ≤ l.length ∧ v14 = .int .i64 i ∧ Aside0 (scan (fun i => idxE (l.getD i 0) n) (l.length - i) i = setA l n) ∧ w = W) (fun v14 _ => l.length - (intOf v14).toNat)
    case atStart => exact ⟨0, Nat.zero_le _, rfl, ⟨rfl⟩, rfl⟩
    case round =>
      obtain ⟨i, hi, rfl, HE, rfl⟩ := hrel
      by_cases hlt : i < l.length
      · obtain ⟨ad, rfl, hx⟩ := at_I HC.out i hlt
        obtain ⟨b, hb⟩ : ∃ b, l.length - i = b + 1 := ⟨l.length - i - 1, by omega⟩
        have HE2 := HE.out
        rw [hb] at HE2
        obtain ⟨hz, hn⟩ := scan_step HE2
        generalize l.getD i 0 = x at hx hz hn
        clear HE HE2
        go_wp2_with fail
        refine (idx_any x n w).mono ?_
        rintro e w' ⟨rfl, rfl⟩
        by_cases h0 : idxE x n = 0
        · have d0 : (idxE x n != 0) = false := bne_eq_false_iff_eq.mpr h0
          have HE := Aside0.mk (hz h0)
          clear hz hn h0
          generalize idxE x n = y at d0
          go_wp2_with fail
          go_roundw
          case rel => exact ⟨i + 1, by omega, by go_num, ⟨by rw [show l.length - (i + 1) = b by omega]; exact HE.out⟩, by first | rfl | trivial⟩
          case measure => simp [intOf]; omega
        · have d0 : (idxE x n != 0) = true := bne_iff_ne.mpr h0
          have HE := Aside0.mk (hn h0)
          clear hz hn h0
          generalize idxE x n = y at d0 HE
          go_wp2_with fail
          go_ret
          exact ⟨by unfold respE; rw [if_pos hn, ← HE.out]; rfl, rfl⟩
      · have hi2 : i = l.length := by omega
        subst hi2
        rw [Nat.sub_self] at HE
        go_wp2_with fail
        go_ret
        exact ⟨by unfold respE; rw [if_pos hn, ← HE.out]; rfl, rfl⟩
  · have d0 : ((l.length : Int) != n) = true := bne_iff_ne.mpr hn
    go_enter Tryd.func60, Tryd.ntmps60
    go_wp2_with fail
    go_ret
    exact ⟨by unfold respE; rw [if_neg hn]; rfl, rfl⟩
def valE (P : S27) (v : Int) : Int := whenE (decide (v < -1) || decide ((P.f4.length : Int) ≤ v)) 5
theorem value_any (P : S27) (cs : List Value) (v : Int) (w : World) (hP : k27.K w P cs) : Calls Tryd.prog 59 #[.agg cs.toArray, .int .i64 v] w fun e w' => e = .returned (.int .i64 (valE P v)) ∧ Below w.heap.size w w' := by
  obtain ⟨A2, c2, A3, c3, A4, c4, A6, c6, A7, c7, A8, c8, A9, c9, rfl, _⟩ := k27_open hP
  clear hP
  by_cases h : v < -1
  · have d1 : decide (v < -1) = true := decide_eq_true h
    go_enter Tryd.func59, Tryd.ntmps59
    go_wp2_with fail
    refine (when_any true 5 _).mono ?_
    rintro e w' ⟨rfl, rfl⟩
    go_wp2_with fail
    go_ret
    exact ⟨by unfold valE; rw [d1]; rfl, (Below.refl _ _).alloc (Nat.le_refl _) _⟩
  · have d1 : decide (v < -1) = false := decide_eq_false h
    go_enter Tryd.func59, Tryd.ntmps59
    go_wp2_with fail
    refine (when_any (decide ((P.f4.length : Int) ≤ v)) 5 _).mono ?_
    rintro e w' ⟨rfl, rfl⟩
    go_wp2_with fail
    go_ret
    exact ⟨by unfold valE; rw [d1]; rfl, (Below.refl _ _).alloc (Nat.le_refl _) _⟩
def fitsE (k t : Int) : Bool := if k = 1 ∨ k = 2 ∨ k = 3 then t == 1 else if k = 4 ∨ k = 5 then t != 1 else false
theorem fits_any (k t : Int) (w : World) : Calls Tryd.prog 55 #[.int .i64 k, .int .i64 t] w fun e w' => e = .returned (.bool (fitsE k t)) ∧ w' = w := by
  by_cases h1 : k = 1
  · subst h1
    go_enter Tryd.func55, Tryd.ntmps55
    go_wp2_with fail
    go_ret
    exact ⟨rfl, rfl⟩
  by_cases h2 : k = 2
  · subst h2
    go_enter Tryd.func55, Tryd.ntmps55
    go_wp2_with fail
    go_ret
    exact ⟨rfl, rfl⟩
  by_cases h3 : k = 3
  · subst h3
    go_enter Tryd.func55, Tryd.ntmps55
    go_wp2_with fail
    go_ret
    exact ⟨rfl, rfl⟩
  by_cases h4 : k = 4
  · subst h4
    go_enter Tryd.func55, Tryd.ntmps55
    go_wp2_with fail
    go_ret
    exact ⟨rfl, rfl⟩
  by_cases h5 : k = 5
  · subst h5
    go_enter Tryd.func55, Tryd.ntmps55
    go_wp2_with fail
    go_ret
    exact ⟨rfl, rfl⟩
  have d1 : (k == 1) = false := beq_eq_false_iff_ne.mpr h1
  have d2 : (k == 2) = false := beq_eq_false_iff_ne.mpr h2
  have d3 : (k == 3) = false := beq_eq_false_iff_ne.mpr h3
  have d4 : (k == 4) = false := beq_eq_false_iff_ne.mpr h4
  have d5 : (k == 5) = false := beq_eq_false_iff_ne.mpr h5
  go_enter Tryd.func55, Tryd.ntmps55
  go_wp2_with fail
  go_ret
  exact ⟨by unfold fitsE; rw [if_neg (by omega), if_neg (by omega)]; rfl, rfl⟩
def facE (n : Int) : Bool := decide (-100 ≤ n) && decide (n ≤ 100)
theorem fac_any (n : Int) (w : World) : Calls Tryd.prog 48 #[.int .i64 n] w fun e w' => e = .returned (.bool (facE n)) ∧ w' = w := by
  by_cases h : -100 ≤ n
  · have d1 : decide (-100 ≤ n) = true := decide_eq_true h
    go_enter Tryd.func48, Tryd.ntmps48
    go_wp2_with fail
    go_ret
    exact ⟨by unfold facE; rw [d1]; rfl, rfl⟩
  · have d1 : decide (-100 ≤ n) = false := decide_eq_false h
    go_enter Tryd.func48, Tryd.ntmps48
    go_wp2_with fail
    go_ret
    exact ⟨by unfold facE; rw [d1]; rfl, rfl⟩
def bndE (L : S48) : Bool := facE L.f0 && facE L.f1 && facE L.f2 && facE L.f3
theorem bnd_any (L : S48) (w : World) : Calls Tryd.prog 26 #[.agg #[.int .i64 L.f0, .int .i64 L.f1, .int .i64 L.f2, .int .i64 L.f3]] w fun e w' => e = .returned (.bool (bndE L)) ∧ w' = w.alloc (.cells #[.int .i64 L.f0, .int .i64 L.f1, .int .i64 L.f2, .int .i64 L.f3] 48) := by
  have key : ∀ b0 b1 b2 b3, facE L.f0 = b0 → facE L.f1 = b1 → facE L.f2 = b2 → facE L.f3 = b3 → Calls Tryd.prog 26 #[.agg #[.int .i64 L.f0, .int .i64 L.f1, .int .i64 L.f2, .int .i64 L.f3]] w fun e w' => e = .returned (.bool (b0 && b1 && b2 && b3)) ∧ w' = w.alloc (.cells #[.int .i64 L.f0, .int .i64 L.f1, .int .i64 L.f2, .int .i64 L.f3] 48) := by
    intro b0 b1 b2 b3 h0 h1 h2 h3
    generalize L.f0 = n0 at h0 ⊢
    generalize L.f1 = n1 at h1 ⊢
    generalize L.f2 = n2 at h2 ⊢
    generalize L.f3 = n3 at h3 ⊢
    have c0 := fun w => h0 ▸ fac_any n0 w
    have c1 := fun w => h1 ▸ fac_any n1 w
    have c2 := fun w => h2 ▸ fac_any n2 w
    have c3 := fun w => h3 ▸ fac_any n3 w
    have C0 := Aside0.mk c0
    have C1 := Aside0.mk c1
    have C2 := Aside0.mk c2
    have C3 := Aside0.mk c3
    clear c0 c1 c2 c3 h0 h1 h2 h3
    cases b0
    · go_enter Tryd.func26, Tryd.ntmps26
      go_wp2_with fail
      refine (C0.out _).mono ?_
      rintro e w' ⟨rfl, rfl⟩
      go_wp2_with fail
      go_ret
      exact ⟨rfl, rfl⟩
    · cases b1
      · go_enter Tryd.func26, Tryd.ntmps26
        go_wp2_with fail
        refine (C0.out _).mono ?_
        rintro e w' ⟨rfl, rfl⟩
        go_wp2_with fail
        refine (C1.out _).mono ?_
        rintro e w' ⟨rfl, rfl⟩
        go_wp2_with fail
        go_ret
        exact ⟨rfl, rfl⟩
      · cases b2
        · go_enter Tryd.func26, Tryd.ntmps26
          go_wp2_with fail
          refine (C0.out _).mono ?_
          rintro e w' ⟨rfl, rfl⟩
          go_wp2_with fail
          refine (C1.out _).mono ?_
          rintro e w' ⟨rfl, rfl⟩
          go_wp2_with fail
          refine (C2.out _).mono ?_
          rintro e w' ⟨rfl, rfl⟩
          go_wp2_with fail
          go_ret
          exact ⟨rfl, rfl⟩
        · go_enter Tryd.func26, Tryd.ntmps26
          go_wp2_with fail
          refine (C0.out _).mono ?_
          rintro e w' ⟨rfl, rfl⟩
          go_wp2_with fail
          refine (C1.out _).mono ?_
          rintro e w' ⟨rfl, rfl⟩
          go_wp2_with fail
          refine (C2.out _).mono ?_
          rintro e w' ⟨rfl, rfl⟩
          go_wp2_with fail
          refine (C3.out _).mono ?_
          rintro e w' ⟨rfl, rfl⟩
          go_wp2_with fail
          go_ret
          exact ⟨by simp, rfl⟩
  exact key _ _ _ _ rfl rfl rfl rfl
end Go.Proofs.YtoggkfapdomhgaaDoor.Pr
