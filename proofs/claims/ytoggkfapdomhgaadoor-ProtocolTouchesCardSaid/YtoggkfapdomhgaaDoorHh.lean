/- Contracts of slices.IndexFunc and ContainsFunc at rules, for any function value; conditions: each theorem's own premises. -/
import Derived.Test.YtoggkfapdomhgaaDoorHg
namespace Go.Proofs.YtoggkfapdomhgaaDoor.Pr
open Go.RowKit Go.Proofs.YtoggkfapdomhgaaDoorW.PrintWords Go.Proofs.YtoggkfapdomhgaaDoorW.PrintLast Go.Proofs.YtoggkfapdomhgaaDoorW.PrintMore
set_option linter.unusedVariables false
set_option linter.unusedSimpArgs false
set_option maxRecDepth 100000
/-- A load of many cells, at one blow. -/
theorem load_run {P : Program} {o : Oper} {a : Act} {W : World} (t : TypeId) (x : Operand) (ho : o.op = .load t x) (ad : Addr) (hx : a.eval x = .pointer (some ad)) (cs : List Value)
    (hs : ∀ w, (Go.sizeOf t).run P w = .ok cs.length w) (hg : ∀ w, (isAgg t).run P w = .ok true w) (hc : ∀ j v, cs[j]? = some v → W.cell? (ad.add j) = some v) :
    (execOp a.eval o).run P W = .ok (.value (.agg cs.toArray)) W := by
  have hl := run_loadCells_list (P := P) (w := W) ad cs hc
  have h1 : (Instr.loadAt t (.pointer (some ad))).run P W = .ok (.agg cs.toArray) W := by
    simp only [Instr.loadAt, Instr.sureAddr, Sem.run_bind, Sem.run_pure, Result.andThen_ok, loadVar, hg, hs, hl, if_true]
  unfold execOp
  simp [ho, hx, h1, Result.andThen]
/-- A rule of a row: its cells. -/
theorem at_rule {w : World} {A : Option Addr} {n : Nat} {xs : List S30} (h : Kd.C k30 w A n xs) (i : Nat) (h1 : i < n) : ∃ ad cs, A = some ad ∧ k30.K w (xs.getD i z30) cs ∧ cs.length = 18 ∧ ∀ j v, cs[j]? = some v → w.cell? ((ad.add (i * 18)).add j) = some v := by
  obtain ⟨ad, c, e, hl, hK, hc0⟩ := ReadsRow.get_ h z30 (i : Int) (by omega) (by omega)
  exact ⟨ad, c, e, hK, hl, fun j v hv => by rw [add_add]; exact hc0 j v hv⟩
/-- What a function value says of a rule. -/
def Says (g : Nat) (lb : Array Value) (w : World) (pr : S30 → Bool → Prop) : Prop :=
  ∀ (W : World) (x : S30) (cs : List Value), Below w.heap.size w W → k30.K W x cs → Calls Tryd.prog g (#[.agg cs.toArray] ++ lb) W fun e w' => ∃ b, e = .returned (.bool b) ∧ pr x b ∧ Below W.heap.size W w'
set_option maxHeartbeats 2000000 in
theorem index_any (g : Nat) (lb : Array Value) (pr : S30 → Bool → Prop) (A : Option Addr) (c : Nat) (l : List S30) (w : World) (hC : Kd.C k30 w A l.length l) (hs : Says g lb w pr) (eg : ∀ args w, (callFunc g args).run Tryd.prog w = .ok (.enter g args) w) :
    Calls Tryd.prog 46 #[.slice A l.length c, .func (.func g) #[] lb] w fun e w' => ∃ r : Int, e = .returned (.int .i64 r) ∧ ((r = -1 ∧ ∀ i, i < l.length → pr (l.getD i z30) false) ∨ (∃ i : Nat, i < l.length ∧ r = (i : Int) ∧ pr (l.getD i z30) true)) ∧ Below w.heap.size w w' := by
  have HC := Aside0.mk hC
  have HS := Aside0.mk hs
  have hmax := hC.2.1
  clear hC hs
  go_enter Tryd.func46, Tryd.ntmps46
  go_wp2_with fail
  go_loopw [8] (fun v8 W => ∃ i : Nat, i ≤ l.length ∧ v8 = .int .i64 i ∧ Aside0 (∀ j, j < i → pr (l.getD j z30) false) ∧ Aside0 (Below w.heap.size w W)) (fun v8 _ => l.length - (intOf v8).toNat)
  case atStart => exact ⟨0, Nat.zero_le _, rfl, ⟨fun j hj => by omega⟩, ⟨Below.refl _ _⟩⟩
  case round =>
    obtain ⟨i, hi, rfl, HE, HB⟩ := hrel
    by_cases hlt : i < l.length
    · obtain ⟨ad, cs, rfl, hK, hn, hc⟩ := at_rule (Kd.C_below HC.out HB.out) i hlt
      have HK := Aside0.mk hK
      have HX := Aside0.mk hc
      have hs30 : ∀ w, (Go.sizeOf 30).run Tryd.prog w = .ok cs.length w := fun w => by rw [hn]; exact Tryd.sizeOf30 w
      have HS30 := Aside0.mk hs30
      clear hK hc hs30
      go_wp2_with ((with_reducible refine gate_dst (N := 15) rfl ?_); refine Kd.event_run rfl (load_run 30 (.tmp 14) rfl (ad.add (i * 18)) rfl cs HS30.out Tryd.isAgg30 HX.out) ?_)
      refine (HS.out wr _ cs HB.out HK.out).mono ?_
      rintro e w' ⟨b, rfl, hp, hB⟩
      have HB2 := Aside0.mk (HB.out.trans (hB.mono HB.out.size))
      have HP := Aside0.mk hp
      clear hp hB
      cases b
      · go_wp2_with fail
        go_roundw
        case rel => exact ⟨i + 1, by omega, by go_num, ⟨fun j hj => by rcases Nat.lt_or_eq_of_le (Nat.le_of_lt_succ hj) with h | rfl; exact HE.out j h; exact HP.out⟩, HB2⟩
        case measure => simp [intOf]; omega
      · go_wp2_with fail
        go_ret
        exact ⟨_, rfl, .inr ⟨i, hlt, rfl, HP.out⟩, HB2.out⟩
    · have hi2 : i = l.length := by omega
      subst hi2
      go_wp2_with fail
      go_ret
      exact ⟨_, rfl, .inl ⟨rfl, HE.out⟩, HB.out⟩
theorem contains_any (g : Nat) (lb : Array Value) (pr : S30 → Bool → Prop) (A : Option Addr) (c : Nat) (l : List S30) (w : World) (hC : Kd.C k30 w A l.length l) (hs : Says g lb w pr) (eg : ∀ args w, (callFunc g args).run Tryd.prog w = .ok (.enter g args) w) :
    Calls Tryd.prog 23 #[.slice A l.length c, .func (.func g) #[] lb] w fun e w' => ∃ b : Bool, e = .returned (.bool b) ∧ ((b = false ∧ ∀ i, i < l.length → pr (l.getD i z30) false) ∨ (b = true ∧ ∃ i : Nat, i < l.length ∧ pr (l.getD i z30) true)) ∧ Below w.heap.size w w' := by
  go_enter Tryd.func23, Tryd.ntmps23
  go_wp2_with fail
  refine (index_any g lb pr A c l w hC hs eg).mono ?_
  rintro e w' ⟨r, rfl, ⟨rfl, hp⟩ | ⟨i, hi, rfl, hp⟩, hB⟩
  · go_wp2_with fail
    go_ret
    exact ⟨_, rfl, .inl ⟨rfl, hp⟩, hB⟩
  · have d0 : decide ((0 : Int) ≤ (i : Int)) = true := decide_eq_true (by omega)
    go_wp2_with fail
    go_ret
    exact ⟨true, rfl, .inr ⟨rfl, i, hi, hp⟩, hB⟩
end Go.Proofs.YtoggkfapdomhgaaDoor.Pr
