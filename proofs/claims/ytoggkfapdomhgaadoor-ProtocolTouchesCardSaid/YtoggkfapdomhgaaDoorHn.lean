/- Weak contracts of slices.Equal at the family's rows: equal contents give true, unequal lengths false. Conditions: each theorem's own premises. -/
import Derived.Test.YtoggkfapdomhgaaDoorHm
namespace Go.Proofs.YtoggkfapdomhgaaDoor.Pr
open Go.RowKit Go.Proofs.YtoggkfapdomhgaaDoorW.PrintWords Go.Proofs.YtoggkfapdomhgaaDoorW.PrintLast Go.Proofs.YtoggkfapdomhgaaDoorW.PrintMore
attribute [local go_sem high] eqA93 eqA48
set_option linter.unusedVariables false
set_option linter.unusedSimpArgs false
set_option maxRecDepth 100000
theorem at_S {w : World} {A : Option Addr} {n : Nat} {l : List ByteArray} (h : Kd.C Kd.string w A n l) (i : Nat) (hi : i < n) : ∃ ad, A = some ad ∧ w.cell? (ad.add i) = some (.string (l.getD i ByteArray.empty)) := by
  obtain ⟨ad, c, e, _, hK, hc⟩ := ReadsRow.get_ h ByteArray.empty (i : Int) (by omega) (by omega)
  obtain rfl : c = [.string (l.getD i ByteArray.empty)] := hK
  exact ⟨ad, e, by simpa [Kd.string, Kd.scalar] using hc 0 _ rfl⟩
/-- What a weak test of two things says. -/
def Weak {α : Type} (xs ys : List α) (w w' : World) (e : Ending) : Prop := ∃ b : Bool, e = .returned (.bool b) ∧ (xs = ys → b = true) ∧ (xs.length ≠ ys.length → b = false) ∧ Below w.heap.size w w'
set_option maxHeartbeats 2000000 in
theorem eqS_any (A : Option Addr) (c : Nat) (xs : List ByteArray) (B : Option Addr) (d : Nat) (ys : List ByteArray) (w : World) (hA : Kd.C Kd.string w A xs.length xs) (hB : Kd.C Kd.string w B ys.length ys) :
    Calls Tryd.prog 17 #[.slice A xs.length c, .slice B ys.length d] w fun e w' => Weak xs ys w w' e := by
  have HA := Aside0.mk hA
  have HB := Aside0.mk hB
  have hmax := hA.2.1
  clear hA hB
  by_cases hn : xs.length = ys.length
  case neg =>
    have d0 : ((xs.length : Int) != (ys.length : Int)) = true := by rw [bne_iff_ne]; omega
    go_enter Tryd.func17, Tryd.ntmps17
    go_wp2_with fail
    go_ret
    exact ⟨_, rfl, fun h => absurd (by rw [h]) hn, fun _ => rfl, Below.refl _ _⟩
  have d0 : ((xs.length : Int) != (ys.length : Int)) = false := by rw [bne_eq_false_iff_eq]; omega
  have HN := Aside0.mk hn
  rw [← hn] at HB ⊢
  clear hn d0
  go_enter Tryd.func17, Tryd.ntmps17
  go_wp2_with fail
  go_loopw [13] (fun v13 W => ∃ i : Nat, i ≤ xs.length ∧ v13 = .int .i64 i ∧ Aside0 (∃ n, W = w.drewN n)) (fun v13 _ => xs.length - (intOf v13).toNat)
  case atStart => exact ⟨0, Nat.zero_le _, rfl, ⟨0, rfl⟩⟩
  case round =>
    obtain ⟨i, hi, rfl, ⟨n, rfl⟩⟩ := hrel
    by_cases hlt : i < xs.length
    · obtain ⟨ad, rfl, x0⟩ := at_S HA.out i hlt
      obtain ⟨bd, rfl, y0⟩ := at_S HB.out i hlt
      skip
      obtain ⟨x, hx⟩ : ∃ x, x = xs.getD i ByteArray.empty := ⟨_, rfl⟩
      obtain ⟨y, hy⟩ : ∃ y, y = ys.getD i ByteArray.empty := ⟨_, rfl⟩
      rw [← hx] at x0
      rw [← hy] at y0
      have HX := Aside0.mk hx
      have HY := Aside0.mk hy
      clear hx hy
      have hil : (i : Int) < (xs.length : Int) := by omega
      go_wp2_with fail
      go_region
      generalize hc : (!(x.toList == y.toList)) = cc
      have HC := Aside0.mk hc
      clear hc x0 y0
      cases cc
      · go_wp2_with fail
        go_roundw
        case rel => exact ⟨i + 1, by omega, by go_num, ⟨n + 1, rfl⟩⟩
        case measure => simp [intOf]; omega
      · go_wp2_with fail
        go_ret
        refine ⟨_, rfl, fun h => ?_, fun h => absurd HN.out h, by repeat (first | exact Below.refl _ _ | apply pw_below_drewN)⟩
        have hxy : x = y := by rw [HX.out, HY.out, h]
        have hc := HC.out
        rw [hxy] at hc
        simp at hc
    · have hi2 : i = xs.length := by omega
      subst hi2
      go_wp2_with fail
      go_ret
      exact ⟨_, rfl, fun _ => rfl, fun h => absurd HN.out h, by repeat (first | exact Below.refl _ _ | apply pw_below_drewN)⟩
set_option maxHeartbeats 2000000 in
theorem eqI_any (A : Option Addr) (c : Nat) (xs : List Int) (B : Option Addr) (d : Nat) (ys : List Int) (w : World) (hA : Kd.C (Kd.int .i64) w A xs.length xs) (hB : Kd.C (Kd.int .i64) w B ys.length ys) :
    Calls Tryd.prog 19 #[.slice A xs.length c, .slice B ys.length d] w fun e w' => Weak xs ys w w' e := by
  have HA := Aside0.mk hA
  have HB := Aside0.mk hB
  have hmax := hA.2.1
  clear hA hB
  by_cases hn : xs.length = ys.length
  case neg =>
    have d0 : ((xs.length : Int) != (ys.length : Int)) = true := by rw [bne_iff_ne]; omega
    go_enter Tryd.func19, Tryd.ntmps19
    go_wp2_with fail
    go_ret
    exact ⟨_, rfl, fun h => absurd (by rw [h]) hn, fun _ => rfl, Below.refl _ _⟩
  have d0 : ((xs.length : Int) != (ys.length : Int)) = false := by rw [bne_eq_false_iff_eq]; omega
  have HN := Aside0.mk hn
  rw [← hn] at HB ⊢
  clear hn d0
  go_enter Tryd.func19, Tryd.ntmps19
  go_wp2_with fail
  go_loopw [13] (fun v13 W => ∃ i : Nat, i ≤ xs.length ∧ v13 = .int .i64 i ∧ Aside0 (∃ n, W = w.drewN n)) (fun v13 _ => xs.length - (intOf v13).toNat)
  case atStart => exact ⟨0, Nat.zero_le _, rfl, ⟨0, rfl⟩⟩
  case round =>
    obtain ⟨i, hi, rfl, ⟨n, rfl⟩⟩ := hrel
    by_cases hlt : i < xs.length
    · obtain ⟨ad, rfl, x0⟩ := at_I HA.out i hlt
      obtain ⟨bd, rfl, y0⟩ := at_I HB.out i hlt
      skip
      obtain ⟨x, hx⟩ : ∃ x, x = xs.getD i 0 := ⟨_, rfl⟩
      obtain ⟨y, hy⟩ : ∃ y, y = ys.getD i 0 := ⟨_, rfl⟩
      rw [← hx] at x0
      rw [← hy] at y0
      have HX := Aside0.mk hx
      have HY := Aside0.mk hy
      clear hx hy
      have hil : (i : Int) < (xs.length : Int) := by omega
      go_wp2_with fail
      go_region
      generalize hc : (x != y) = cc
      have HC := Aside0.mk hc
      clear hc x0 y0
      cases cc
      · go_wp2_with fail
        go_roundw
        case rel => exact ⟨i + 1, by omega, by go_num, ⟨n + 1, rfl⟩⟩
        case measure => simp [intOf]; omega
      · go_wp2_with fail
        go_ret
        refine ⟨_, rfl, fun h => ?_, fun h => absurd HN.out h, by repeat (first | exact Below.refl _ _ | apply pw_below_drewN)⟩
        have hxy : x = y := by rw [HX.out, HY.out, h]
        have hc := HC.out
        rw [hxy] at hc
        simp at hc
    · have hi2 : i = xs.length := by omega
      subst hi2
      go_wp2_with fail
      go_ret
      exact ⟨_, rfl, fun _ => rfl, fun h => absurd HN.out h, by repeat (first | exact Below.refl _ _ | apply pw_below_drewN)⟩
set_option maxHeartbeats 2000000 in
theorem eqL_any (A : Option Addr) (c : Nat) (xs : List S48) (B : Option Addr) (d : Nat) (ys : List S48) (w : World) (hA : Kd.C k48 w A xs.length xs) (hB : Kd.C k48 w B ys.length ys) :
    Calls Tryd.prog 18 #[.slice A xs.length c, .slice B ys.length d] w fun e w' => Weak xs ys w w' e := by
  have HA := Aside0.mk hA
  have HB := Aside0.mk hB
  have hmax := hA.2.1
  clear hA hB
  by_cases hn : xs.length = ys.length
  case neg =>
    have d0 : ((xs.length : Int) != (ys.length : Int)) = true := by rw [bne_iff_ne]; omega
    go_enter Tryd.func18, Tryd.ntmps18
    go_wp2_with fail
    go_ret
    exact ⟨_, rfl, fun h => absurd (by rw [h]) hn, fun _ => rfl, Below.refl _ _⟩
  have d0 : ((xs.length : Int) != (ys.length : Int)) = false := by rw [bne_eq_false_iff_eq]; omega
  have HN := Aside0.mk hn
  rw [← hn] at HB ⊢
  clear hn d0
  go_enter Tryd.func18, Tryd.ntmps18
  go_wp2_with fail
  go_loopw [13] (fun v13 W => ∃ i : Nat, i ≤ xs.length ∧ v13 = .int .i64 i ∧ Aside0 (∃ n, W = w.drewN n)) (fun v13 _ => xs.length - (intOf v13).toNat)
  case atStart => exact ⟨0, Nat.zero_le _, rfl, ⟨0, rfl⟩⟩
  case round =>
    obtain ⟨i, hi, rfl, ⟨n, rfl⟩⟩ := hrel
    by_cases hlt : i < xs.length
    · obtain ⟨ad, rfl, x0, x1, x2, x3⟩ := at_T48 HA.out (i : Int) (by omega) (by omega)
      obtain ⟨bd, rfl, y0, y1, y2, y3⟩ := at_T48 HB.out (i : Int) (by omega) (by omega)
      simp only [rd_T48, rd_T93, Int.toNat_natCast] at *
      obtain ⟨x, hx⟩ : ∃ x, x = xs.getD i z48 := ⟨_, rfl⟩
      obtain ⟨y, hy⟩ : ∃ y, y = ys.getD i z48 := ⟨_, rfl⟩
      rw [← hx] at x0 x1 x2 x3
      rw [← hy] at y0 y1 y2 y3
      have HX := Aside0.mk hx
      have HY := Aside0.mk hy
      clear hx hy
      have hil : (i : Int) < (xs.length : Int) := by omega
      go_wp2_with fail
      go_region
      generalize hc : (!(x.f0 == y.f0) || (!(x.f1 == y.f1) || (!(x.f2 == y.f2) || (!(x.f3 == y.f3))))) = cc
      have HC := Aside0.mk hc
      clear hc x0 x1 x2 x3 y0 y1 y2 y3
      cases cc
      · go_wp2_with fail
        go_roundw
        case rel => exact ⟨i + 1, by omega, by go_num, ⟨n + 1, rfl⟩⟩
        case measure => simp [intOf]; omega
      · go_wp2_with fail
        go_ret
        refine ⟨_, rfl, fun h => ?_, fun h => absurd HN.out h, by repeat (first | exact Below.refl _ _ | apply pw_below_drewN)⟩
        have hxy : x = y := by rw [HX.out, HY.out, h]
        have hc := HC.out
        rw [hxy] at hc
        simp at hc
    · have hi2 : i = xs.length := by omega
      subst hi2
      go_wp2_with fail
      go_ret
      exact ⟨_, rfl, fun _ => rfl, fun h => absurd HN.out h, by repeat (first | exact Below.refl _ _ | apply pw_below_drewN)⟩
set_option maxHeartbeats 2000000 in
theorem eqT_any (A : Option Addr) (c : Nat) (xs : List S93) (B : Option Addr) (d : Nat) (ys : List S93) (w : World) (hA : Kd.C k93 w A xs.length xs) (hB : Kd.C k93 w B ys.length ys) :
    Calls Tryd.prog 47 #[.slice A xs.length c, .slice B ys.length d] w fun e w' => Weak xs ys w w' e := by
  have HA := Aside0.mk hA
  have HB := Aside0.mk hB
  have hmax := hA.2.1
  clear hA hB
  by_cases hn : xs.length = ys.length
  case neg =>
    have d0 : ((xs.length : Int) != (ys.length : Int)) = true := by rw [bne_iff_ne]; omega
    go_enter Tryd.func47, Tryd.ntmps47
    go_wp2_with fail
    go_ret
    exact ⟨_, rfl, fun h => absurd (by rw [h]) hn, fun _ => rfl, Below.refl _ _⟩
  have d0 : ((xs.length : Int) != (ys.length : Int)) = false := by rw [bne_eq_false_iff_eq]; omega
  have HN := Aside0.mk hn
  rw [← hn] at HB ⊢
  clear hn d0
  go_enter Tryd.func47, Tryd.ntmps47
  go_wp2_with fail
  go_loopw [13] (fun v13 W => ∃ i : Nat, i ≤ xs.length ∧ v13 = .int .i64 i ∧ Aside0 (∃ n, W = w.drewN n)) (fun v13 _ => xs.length - (intOf v13).toNat)
  case atStart => exact ⟨0, Nat.zero_le _, rfl, ⟨0, rfl⟩⟩
  case round =>
    obtain ⟨i, hi, rfl, ⟨n, rfl⟩⟩ := hrel
    by_cases hlt : i < xs.length
    · obtain ⟨ad, rfl, x0, x1, x2, x3, x4, x5⟩ := at_T93 HA.out (i : Int) (by omega) (by omega)
      obtain ⟨bd, rfl, y0, y1, y2, y3, y4, y5⟩ := at_T93 HB.out (i : Int) (by omega) (by omega)
      simp only [rd_T48, rd_T93, Int.toNat_natCast] at *
      obtain ⟨x, hx⟩ : ∃ x, x = xs.getD i z93 := ⟨_, rfl⟩
      obtain ⟨y, hy⟩ : ∃ y, y = ys.getD i z93 := ⟨_, rfl⟩
      rw [← hx] at x0 x1 x2 x3 x4 x5
      rw [← hy] at y0 y1 y2 y3 y4 y5
      have HX := Aside0.mk hx
      have HY := Aside0.mk hy
      clear hx hy
      have hil : (i : Int) < (xs.length : Int) := by omega
      go_wp2_with fail
      go_region
      generalize hc : (!(x.f0 == y.f0) || (!(x.f1 == y.f1) || (!(x.f2.f0 == y.f2.f0) || (!(x.f2.f1 == y.f2.f1) || (!(x.f2.f2 == y.f2.f2) || (!(x.f2.f3 == y.f2.f3))))))) = cc
      have HC := Aside0.mk hc
      clear hc x0 x1 x2 x3 x4 x5 y0 y1 y2 y3 y4 y5
      cases cc
      · go_wp2_with fail
        go_roundw
        case rel => exact ⟨i + 1, by omega, by go_num, ⟨n + 1, rfl⟩⟩
        case measure => simp [intOf]; omega
      · go_wp2_with fail
        go_ret
        refine ⟨_, rfl, fun h => ?_, fun h => absurd HN.out h, by repeat (first | exact Below.refl _ _ | apply pw_below_drewN)⟩
        have hxy : x = y := by rw [HX.out, HY.out, h]
        have hc := HC.out
        rw [hxy] at hc
        simp at hc
    · have hi2 : i = xs.length := by omega
      subst hi2
      go_wp2_with fail
      go_ret
      exact ⟨_, rfl, fun _ => rfl, fun h => absurd HN.out h, by repeat (first | exact Below.refl _ _ | apply pw_below_drewN)⟩
end Go.Proofs.YtoggkfapdomhgaaDoor.Pr
