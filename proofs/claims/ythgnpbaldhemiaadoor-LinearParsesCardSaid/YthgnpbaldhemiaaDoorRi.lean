/- The walk of the specification's readItem; conditions: the row's two blocks (RowSt). -/
import Derived.Test.YthgnpbaldhemiaaDoorRd
import Derived.Test.YthgnpbaldhemiaaDoorHe
namespace Go.Proofs.YthgnpbaldhemiaaDoor.Pr
open Go.RowKit Go.Proofs.YthgnpbaldhemiaaDoorW.PrintWords Go.Proofs.YthgnpbaldhemiaaDoorW.PrintLast Go.Proofs.YthgnpbaldhemiaaDoorW.PrintMore
set_option linter.unusedVariables false
set_option linter.unusedSimpArgs false

def ReadPost (t : ByteArray) (a sign : Int) (cs : List Int) (k : Int) (g s : Nat) (w : World) (e : Ending) (w' : World) : Prop :=
  ∃ nx ok cs' k', e = .returned (.tuple #[.int .i64 nx, .bool ok]) ∧ Aside0 (ReadR t a sign cs k nx ok cs' k') ∧ RowSt w' g s cs' k' ∧ Keep2 w w' g s
theorem bt_nat (t : ByteArray) (i : Nat) : ∀ h : i < t.size, ((t[i]'h).toNat : Int) = bt t i := fun h => by simp [bt, h]
theorem Keep2.drawn {w w1 w2 : World} {g s : Nat} (h : Keep2 w w1 g s) (hd : Drawn0 w1 w2) : Keep2 w w2 g s := by
  obtain ⟨m, rfl⟩ := hd
  exact ⟨h.os, h.tape, h.output, h.size, h.block⟩
theorem RowSt.drawn {w1 w2 : World} {g s : Nat} {cs : List Int} {k : Int} (h : RowSt w1 g s cs k) (hd : Drawn0 w1 w2) : RowSt w2 g s cs k := by
  obtain ⟨m, rfl⟩ := hd
  exact h.below (below_drewN (Below.refl _ _) m)

set_option maxHeartbeats 4000000 in
set_option maxRecDepth 100000 in
theorem readItem_any (t : ByteArray) (hs : t.size ≤ 4000) (a : Nat) (ha : a ≤ t.size) (g s : Nat) (cs : List Int) (k sign : Int) (w : World) (hn : cs.length ≤ 96) (hst : RowSt w g s cs k) :
    Calls Tryd.prog 19 #[.string t, .int .i64 (a : Int), .int .i64 sign, .pointer (some ⟨g, 0, none⟩)] w (ReadPost t a sign cs k g s w) := by
  have HS := Aside0.mk hst
  clear hst
  have hu25 := Tryd.underlying25
  go_enter Tryd.func19, Tryd.ntmps19
  go_upto_region 2 with (fail)
  go_cut [25] (fun v25 wc => ∃ b : Bool, v25 = .bool b ∧ Aside0 (b = true ↔ ((a : Int) < t.size ∧ bt t a ≠ 120)) ∧ Drawn0 w wc)
  case first =>
    by_cases c1 : (a : Int) < t.size
    · have c1b : decide ((a : Int) < (t.size : Int)) = true := decide_eq_true c1
      have p1 : 0 ≤ (a : Int) := by omega
      have hx := bt_nat t a
      have p2 := eq_true p1
      have p3 := eq_true c1
      by_cases c2 : bt t a = 120
      · have c2b : (bt t a != 120) = false := bne_eq_false_iff_eq.mpr c2
        go_wp2
        go_meet
        exact ⟨false, (by first | rfl | (simp; done) | (simp [*]; done)), ⟨by simp [c2]⟩, by repeat (first | exact Drawn0.refl _ | apply Drawn0.step)⟩
      · have c2b : (bt t a != 120) = true := bne_iff_ne.mpr c2
        go_wp2
        go_meet
        exact ⟨true, (by first | rfl | (simp; done) | (simp [*]; done)), ⟨by simp [c2]; omega⟩, by repeat (first | exact Drawn0.refl _ | apply Drawn0.step)⟩
    · have c1b : decide ((a : Int) < (t.size : Int)) = false := decide_eq_false c1
      go_wp2
      go_meet
      exact ⟨false, (by first | rfl | (simp; done) | (simp [*]; done)), ⟨by simp; intro; omega⟩, by repeat (first | exact Drawn0.refl _ | apply Drawn0.step)⟩
  case rest =>
    obtain ⟨b, rfl, HC, hd⟩ := hcut
    have HS1 := Aside0.mk (HS.out.drawn hd)
    have HK1 := Aside0.mk ((Keep2.of_below (Below.refl _ _) g s).drawn hd : Keep2 w wc g s)
    clear hd
    go_upto_if 25 with (fail)
    go_cut [10, 11] (fun v10 v11 wc => ∃ (n : Int) (i : Nat), v10 = .int .i64 n ∧ v11 = .int .i64 (i : Int) ∧ i ≤ t.size ∧ Aside0 (∀ nx ok cs' k', TailR t sign cs k n i nx ok cs' k' → ReadR t a sign cs k nx ok cs' k') ∧ Aside0 (RowSt wc g s cs k) ∧ Aside0 (Keep2 w wc g s))
    case first =>
      cases b
      · go_wp2_with fail
        go_meet
        exact ⟨1, a, rfl, rfl, ha, ⟨fun _ _ _ _ h => .inl ⟨by simpa using HC.out, h⟩⟩, HS1, HK1⟩
      · have hC := HC.out.1 rfl
        obtain ⟨f, n, i, ok, hnum, hgood⟩ := num_all t (by omega) a ha
        go_wp2_with fail
        refine (familycheckref01_number.calls f t a n i ok _ hnum).mono ?_
        rintro e w1 ⟨rfl, hd⟩
        have HS2 := Aside0.mk (HS1.out.drawn hd)
        have HK2 := Aside0.mk (HK1.out.drawn hd)
        clear hd
        cases ok
        · go_wp2_with fail
          go_ret2
          exact ⟨0, false, cs, k, rfl, ⟨.inr ⟨hC.1, hC.2, n, i, false, ⟨f, hnum⟩, .inl ⟨rfl, rfl, rfl, rfl, rfl⟩⟩⟩, HS2.out, HK2.out⟩
        · obtain ⟨j, u, rfl, rfl, h1, h2, h3⟩ := hgood rfl
          have hc0 : w1.cell? ⟨g, 1, none⟩ = some (.int .i64 k) := (blk_cell HS2.out.row 1).trans rfl
          have hfz := blk_frozen HS2.out.row 1
          have HN : Aside0 (Num t a ((u : Int), (j : Int), true)) := ⟨f, hnum⟩
          have HCC := Aside0.mk hC
          clear hnum hgood hC
          have p1 : 0 ≤ (j : Int) := by omega
          have p2 := eq_true p1
          by_cases c3 : (j : Int) < t.size
          · have c3b : decide ((t.size : Int) ≤ (j : Int)) = false := decide_eq_false (by omega)
            have p3 := eq_true c3
            have hx := bt_nat t j
            by_cases c4 : bt t j = 42
            · have c4b : (bt t j != 42) = false := bne_eq_false_iff_eq.mpr c4
              have hw : wrap64 ((j : Int) + 1) = ((j + 1 : Nat) : Int) := by rw [IntWalk.wrap64_in _ (by omega)]; omega
              go_wp2_with fail
              go_meet
              exact ⟨u, j + 1, rfl, by first | rfl | (simp [hw]; done), by omega, ⟨fun _ _ _ _ h => .inr ⟨HCC.out.1, HCC.out.2, u, j, true, HN.out, .inr ⟨rfl, .inr ⟨c3, c4, h⟩⟩⟩⟩, HS2, HK2⟩
            · have c4b : (bt t j != 42) = true := bne_iff_ne.mpr c4
              go_wp2_with fail
              go_ret2
              exact ⟨j, true, cs, _, rfl, ⟨.inr ⟨HCC.out.1, HCC.out.2, u, j, true, HN.out, .inr ⟨rfl, .inl ⟨fun h => c4 h.2, rfl, rfl, rfl, rfl⟩⟩⟩⟩, set_const HS2.out _, HK2.out.set_ (.inl rfl) _⟩
          · have c3b : decide ((t.size : Int) ≤ (j : Int)) = true := decide_eq_true (by omega)
            go_wp2_with fail
            go_ret2
            exact ⟨j, true, cs, _, rfl, ⟨.inr ⟨HCC.out.1, HCC.out.2, u, j, true, HN.out, .inr ⟨rfl, .inl ⟨fun h => absurd h.1 (by omega), rfl, rfl, rfl, rfl⟩⟩⟩⟩, set_const HS2.out _, HK2.out.set_ (.inl rfl) _⟩
    case rest =>
      clear HS1 HK1 HC
      obtain ⟨n, i, rfl, rfl, hi, HR, HS1, HK1⟩ := hcut
      have p1 : 0 ≤ (i : Int) := by omega
      have p2 := eq_true p1
      by_cases c3 : (i : Int) < t.size
      · have c3b : decide ((t.size : Int) ≤ (i : Int)) = false := decide_eq_false (by omega)
        have p3 := eq_true c3
        have hx := bt_nat t i
        by_cases c4 : bt t i = 120
        · have c4b : (bt t i != 120) = false := bne_eq_false_iff_eq.mpr c4
          have hw : wrap64 ((i : Int) + 1) = ((i + 1 : Nat) : Int) := by rw [IntWalk.wrap64_in _ (by omega)]; omega
          obtain ⟨f, v, j, ok, hnum, hgood⟩ := num_all t (by omega) (i + 1) (by omega)
          have HN : Aside0 (Num t ((i : Int) + 1) (v, j, ok)) := ⟨f, by rw [← hnum]; congr 1⟩
          go_wp2_with fail
          refine (familycheckref01_number.calls f t ((i + 1 : Nat) : Int) v j ok _ hnum).mono ?_
          rintro e w1 ⟨rfl, hd⟩
          have HS2 := Aside0.mk (HS1.out.drawn hd)
          have HK2 := Aside0.mk (HK1.out.drawn hd)
          clear hd
          have hc0 : w1.cell? ⟨g, 0, none⟩ = some (.slice (some ⟨s, 0, none⟩) cs.length cs.length) := (blk_cell HS2.out.row 0).trans rfl
          cases ok
          · go_wp2_with fail
            go_ret2
            exact ⟨0, false, cs, k, rfl, ⟨HR.out _ _ _ _ (.inr ⟨c3, c4, v, j, false, HN.out, .inl ⟨.inl rfl, rfl, rfl, rfl, rfl⟩⟩)⟩, HS2.out, HK2.out⟩
          · obtain ⟨q, u, rfl, rfl, h1, h2, h3⟩ := hgood rfl
            clear hgood
            by_cases c5 : (u : Int) < cs.length
            · have c5b : decide ((cs.length : Int) ≤ (u : Int)) = false := decide_eq_false (by omega)
              have hcs : w1.cell? ⟨s, u, none⟩ = some (.int .i64 (rd cs u)) := (blk_cell HS2.out.coef u).trans (by
                have : u < cs.length := by omega
                simp [nums, rd, this])
              have hfz := blk_frozen HS2.out.coef u
              go_wp2_with fail
              go_ret2
              exact ⟨q, true, _, k, rfl, ⟨HR.out _ _ _ _ (.inr ⟨c3, c4, u, q, true, HN.out, .inr ⟨rfl, c5, rfl, rfl, rfl, rfl⟩⟩)⟩, by
                rw [show ((u : Int)).toNat = u from rfl]
                exact set_coef (w1 := w1) HS2.out u _, HK2.out.set_ (.inr rfl) _⟩
            · have c5b : decide ((cs.length : Int) ≤ (u : Int)) = true := decide_eq_true (by omega)
              go_wp2_with fail
              go_ret2
              exact ⟨0, false, cs, k, rfl, ⟨HR.out _ _ _ _ (.inr ⟨c3, c4, u, q, true, HN.out, .inl ⟨.inr (by omega), rfl, rfl, rfl, rfl⟩⟩)⟩, HS2.out, HK2.out⟩
        · have c4b : (bt t i != 120) = true := bne_iff_ne.mpr c4
          go_wp2_with fail
          go_ret2
          exact ⟨0, false, cs, k, rfl, ⟨HR.out _ _ _ _ (.inl ⟨fun h => c4 h.2, rfl, rfl, rfl, rfl⟩)⟩, HS1.out, HK1.out⟩
      · have c3b : decide ((t.size : Int) ≤ (i : Int)) = true := decide_eq_true (by omega)
        go_wp2_with fail
        go_ret2
        exact ⟨0, false, cs, k, rfl, ⟨HR.out _ _ _ _ (.inl ⟨fun h => absurd h.1 (by omega), rfl, rfl, rfl, rfl⟩)⟩, HS1.out, HK1.out⟩
end Go.Proofs.YthgnpbaldhemiaaDoor.Pr
