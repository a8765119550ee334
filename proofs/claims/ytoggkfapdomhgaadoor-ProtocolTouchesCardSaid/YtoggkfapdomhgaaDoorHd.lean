/- Contracts of slices.Grow at nil, slices.Concat and protocol.names; conditions: each theorem's own premises. -/
import Derived.Test.YtoggkfapdomhgaaDoorHc
namespace Go.Proofs.YtoggkfapdomhgaaDoor.Pr
open Go.RowKit Go.Proofs.YtoggkfapdomhgaaDoorW.PrintWords Go.Proofs.YtoggkfapdomhgaaDoorW.PrintLast Go.Proofs.YtoggkfapdomhgaaDoorW.PrintMore
set_option linter.unusedVariables false
set_option linter.unusedSimpArgs false
set_option maxRecDepth 100000

set_option maxHeartbeats 1000000 in
theorem grow_nil (n : Nat) (hn : n ≤ 1000) (w : World) :
    Calls Tryd.prog 72 #[.slice none 0 0, .int .i64 n] w fun e w' => ∃ v, e = .returned v ∧ Kd.R Kd.string 9 w' w.heap.size (fun _ => True) v [] ∧ Below w.heap.size w w' := by
  have d0 : decide ((n : Int) < 0) = false := decide_eq_false (by omega)
  by_cases hz : n = 0
  · subst hz
    go_enter Tryd.func72, Tryd.ntmps72
    go_wp2_with fail
    go_ret
    exact ⟨_, rfl, Kd.R_nil _ _ _ _ _, Below.refl _ _⟩
  · have d1 : decide ((0 : Int) < (n : Int)) = true := decide_eq_true (by omega)
    go_enter Tryd.func72, Tryd.ntmps72
    go_wp2_with ((with_reducible refine gate_builtin (b := .append) (xs := #[.tmp 20, .tmp 21]) rfl ?_); at_builtin; refine Kd.R_append_zeros Kd.string (w0 := w) w.heap.size rfl (.tmp 20) (.tmp 21) 22 3 9 (.string ByteArray.empty) 16 rfl Tryd.underlying22 Tryd.underlying3 cinfo9 rfl (by decide) (by decide) (.slice none 0 0) [] ByteArray.empty (n : Int) (fun _ => True) rfl rfl ?k1 ?k2 ?k3 ?k4 ?k5 ?k6 ?k7 ?_)
    all_goals first | exact Kd.R_nil _ _ _ _ _ | exact Below.refl _ _ | exact Nat.le_refl _ | exact fun _ _ => trivial | rfl | omega | (simp; omega) | skip
    intro v1 w1 hR hB _ _
    obtain ⟨A1, c1, rfl⟩ := Kd.R_slice hR
    have HR1 := Aside0.mk hR
    have HB1 := Aside0.mk hB
    clear hR hB
    go_wp2_with fail
    go_ret
    refine ⟨_, rfl, ?_, HB1.out⟩
    have := Kd.R_take (m := 0) HR1.out (Nat.zero_le _)
    simpa using this

def rdL (xss : List (List ByteArray)) (i : Nat) : List ByteArray := xss.getD i []
theorem at_LS {w : World} {ad : Addr} {n : Nat} {xss : List (List ByteArray)} (h : Kd.C (Kd.slice 9 Kd.string) w (some ad) n xss) (i : Nat) (hi : i < n) :
    ∃ A0 c0, w.cell? (ad.add i) = some (.slice A0 (rdL xss i).length c0) ∧ (rdL xss i).length ≤ c0 ∧ Kd.C Kd.string w A0 (rdL xss i).length (rdL xss i) := by
  obtain ⟨ad', c, e, hl, hK, hc⟩ := ReadsRow.get_ h [] (i : Int) (by omega) (by omega)
  obtain rfl := Option.some.inj e
  obtain ⟨A0, c0, rfl, h1, h2⟩ := hK
  refine ⟨A0, c0, ?_, h1, h2⟩
  have := hc 0 _ rfl
  simpa [rdL, Kd.slice] using this

def sumLen (xss : List (List ByteArray)) : Nat := xss.flatten.length
theorem flat_snoc (xss : List (List ByteArray)) (i : Nat) (h : i < xss.length) : (xss.take (i + 1)).flatten = (xss.take i).flatten ++ rdL xss i := by
  rw [List.take_succ_eq_append_getElem h, List.flatten_append]
  simp [rdL, List.getD, h]
theorem flat_le (xss : List (List ByteArray)) (i : Nat) : sumLen (xss.take i) ≤ sumLen xss := by
  have : (xss.take i).flatten ++ (xss.drop i).flatten = xss.flatten := by rw [← List.flatten_append, List.take_append_drop]
  unfold sumLen
  rw [← this, List.length_append]
  omega
set_option maxHeartbeats 2000000 in
theorem concat_any (ad : Addr) (c : Nat) (xss : List (List ByteArray)) (w : World) (hC : Kd.C (Kd.slice 9 Kd.string) w (some ad) xss.length xss) (hn : xss.length ≤ 10) (hl : sumLen xss ≤ 1000) :
    Calls Tryd.prog 53 #[.slice (some ad) xss.length c] w fun e w' => ∃ v, e = .returned v ∧ Kd.R Kd.string 9 w' w.heap.size (fun _ => True) v xss.flatten ∧ Below w.heap.size w w' := by
  have HC := Aside0.mk hC
  clear hC
  go_enter Tryd.func53, Tryd.ntmps53
  go_wp2_with fail
  go_loopw [3, 11] (fun v3 v11 W => ∃ i : Nat, i ≤ xss.length ∧ v11 = .int .i64 i ∧ v3 = .int .i64 (sumLen (xss.take i) : Nat) ∧ w = W) (fun _ v11 _ => xss.length - (intOf v11).toNat)
  case atStart => exact ⟨0, Nat.zero_le _, rfl, rfl, rfl⟩
  case round =>
    obtain ⟨i, hi, rfl, rfl, rfl⟩ := hrel
    by_cases hlt : i < xss.length
    · obtain ⟨A0, c0, h1, h2, h3⟩ := at_LS HC.out i hlt
      have hsum : sumLen (xss.take (i + 1)) = sumLen (xss.take i) + (rdL xss i).length := by unfold sumLen; rw [flat_snoc xss i hlt, List.length_append]
      have hle := flat_le xss (i + 1)
      have d0 : decide (((sumLen (xss.take i) : Nat) : Int) + ((rdL xss i).length : Int) < 0) = false := decide_eq_false (by omega)
      generalize hrd : rdL xss i = rw_ at h1 h2 h3 hsum d0
      generalize sumLen (xss.take i) = s0 at hsum d0 ⊢
      go_wp2_with fail
      go_roundw
      case rel => exact ⟨i + 1, by omega, by go_num, by rw [hsum]; go_num, by first | rfl | trivial⟩
      case measure => simp [intOf]; omega
    · have hi2 : i = xss.length := by omega
      subst hi2
      rw [List.take_length]
      go_wp2_with fail
      refine (grow_nil (sumLen xss) hl _).mono ?_
      rintro e W ⟨v, rfl, hR, hB⟩
      have HR := Aside0.mk hR
      have HB := Aside0.mk hB
      clear hR hB
      go_wp2_with fail
      go_loopw [6, 27] (fun v6 v27 W => ∃ i : Nat, i ≤ xss.length ∧ v27 = .int .i64 i ∧ Aside0 (Kd.R Kd.string 9 W w.heap.size (fun _ => True) v6 (xss.take i).flatten) ∧ Aside0 (Below w.heap.size w W)) (fun _ v27 _ => xss.length - (intOf v27).toNat)
      case atStart => exact ⟨0, Nat.zero_le _, rfl, HR, HB⟩
      case round =>
        obtain ⟨i, hi, rfl, HR2, HB2⟩ := hrel
        clear HR HB
        by_cases hlt : i < xss.length
        · have HCr := Aside0.mk (Kd.C_below HC.out HB2.out)
          obtain ⟨A0, c0, h1, h2, h3⟩ := at_LS HCr.out i hlt
          have H3 := Aside0.mk h3
          have H4 := flat_snoc xss i hlt
          clear h3
          generalize rdL xss i = ys at h1 h2 H3 H4
          go_wp2_with ((with_reducible refine gate_builtin (b := .append) (xs := #[.tmp 31, .tmp 32]) rfl ?_); at_builtin; refine Kd.R_append_rows Kd.string (Rr := Kd.K Kd.string wr) (w0 := w) w.heap.size rfl (.tmp 31) (.tmp 32) 22 9 (.string ByteArray.empty) 16 rfl Tryd.underlying22 cinfo9 rfl (by decide) (by decide) _ (xss.take i).flatten ys A0 ys.length c0 (fun _ => True) (fun _ => False) rfl rfl ?k1 ?k2 (fun _ _ h => h) (fun _ h => h.elim) ?k5 ?k6 ?k7 ?k8 ?_)
          all_goals first | exact HR2.out | exact H3.out | exact HB2.out | exact fun _ _ => trivial | exact HB2.out.size | skip
          case k8 =>
            have hle := flat_le xss (i + 1)
            unfold sumLen at hle hl
            rw [H4, List.length_append] at hle
            omega
          intro v1 w1 hR hB _ _
          have HR := Aside0.mk hR
          have HB := Aside0.mk hB
          clear hR hB
          rw [← H4] at HR
          go_wp2_with fail
          go_roundw
          case rel => exact ⟨i + 1, by omega, by go_num, HR, ⟨HB.out⟩⟩
          case measure => simp [intOf]; omega
        · have hi2 : i = xss.length := by omega
          subst hi2
          rw [List.take_length] at HR2
          go_wp2_with fail
          go_ret
          exact ⟨_, rfl, HR2.out, HB2.out⟩

def namesGo (l : List ByteArray) : Nat → Nat → Int
  | 0, _ => 0
  | b + 1, i => if (!validB (l.getD i ByteArray.empty) || Lib.containsS (l.take i) (l.getD i ByteArray.empty)) = true then 2 else namesGo l b (i + 1)
def namesE (l : List ByteArray) : Int := namesGo l l.length 0
theorem C_three (w : World) {A B D : Option Addr} {a b d : Nat} {xs ys zs : List ByteArray} (ha : xs.length ≤ a) (hb : ys.length ≤ b) (hd : zs.length ≤ d) (hA : Kd.C Kd.string w A xs.length xs) (hB : Kd.C Kd.string w B ys.length ys) (hD : Kd.C Kd.string w D zs.length zs) :
    Kd.C (Kd.slice 9 Kd.string) (w.alloc (.cells #[.slice A xs.length a, .slice B ys.length b, .slice D zs.length d] 22)) (some ⟨w.heap.size, 0, none⟩) 3 [xs, ys, zs] := by
  refine ⟨rfl, by decide, fun _ => ⟨_, rfl, fun j p hj => ?_⟩⟩
  match j, hj with
  | 0, hj =>
    obtain rfl := Option.some.inj hj
    exact ⟨[.slice A xs.length a], rfl, ⟨A, a, rfl, ha, Kd.C_alloc hA _⟩, fun i u hu => by match i, hu with | 0, hu => (obtain rfl := Option.some.inj hu; go_simp)⟩
  | 1, hj =>
    obtain rfl := Option.some.inj hj
    exact ⟨[.slice B ys.length b], rfl, ⟨B, b, rfl, hb, Kd.C_alloc hB _⟩, fun i u hu => by match i, hu with | 0, hu => (obtain rfl := Option.some.inj hu; go_simp; rfl)⟩
  | 2, hj =>
    obtain rfl := Option.some.inj hj
    exact ⟨[.slice D zs.length d], rfl, ⟨D, d, rfl, hd, Kd.C_alloc hD _⟩, fun i u hu => by match i, hu with | 0, hu => (obtain rfl := Option.some.inj hu; go_simp; rfl)⟩
set_option maxHeartbeats 2000000 in
theorem names_any (P : S27) (cs : List Value) (w : World) (hG : Glob w) (hP : k27.K w P cs) (hl : (P.f2 ++ P.f3 ++ P.f4).length ≤ 1000) :
    Calls Tryd.prog 33 #[.agg cs.toArray] w fun e w' => e = .returned (.int .i64 (namesE (P.f2 ++ P.f3 ++ P.f4))) ∧ Below w.heap.size w w' := by
  obtain ⟨A2, c2, A3, c3, A4, c4, A6, c6, A7, c7, A8, c8, A9, c9, rfl, l2, g2, l3, g3, l4, g4, l6, g6, l7, g7, l8, g8, l9, g9⟩ := k27_open hP
  have HG := Aside0.mk hG
  have G2 := Aside0.mk g2
  have G3 := Aside0.mk g3
  have G4 := Aside0.mk g4
  clear hG g2 g3 g4 g6 g7 g8 g9 hP l6 l7 l8 l9
  go_enter Tryd.func33, Tryd.ntmps33
  go_wp2_with fail
  have HB0 : Aside0 (Below w.heap.size w ((w.alloc (.cells #[.string P.f0, .int .i64 P.f1, .slice A2 P.f2.length c2, .slice A3 P.f3.length c3, .slice A4 P.f4.length c4, .int .i64 P.f5, .slice A6 P.f6.length c6, .slice A7 P.f7.length c7, .slice A8 P.f8.length c8, .slice A9 P.f9.length c9] 27)).alloc (.cells #[.slice A2 P.f2.length c2, .slice A3 P.f3.length c3, .slice A4 P.f4.length c4] 22))) := ⟨((Below.refl _ _).alloc (Nat.le_refl _) _).alloc (by simp) _⟩
  have HC := C_three (w.alloc (.cells #[.string P.f0, .int .i64 P.f1, .slice A2 P.f2.length c2, .slice A3 P.f3.length c3, .slice A4 P.f4.length c4, .int .i64 P.f5, .slice A6 P.f6.length c6, .slice A7 P.f7.length c7, .slice A8 P.f8.length c8, .slice A9 P.f9.length c9] 27)) l2 l3 l4 (Kd.C_alloc G2.out _) (Kd.C_alloc G3.out _) (Kd.C_alloc G4.out _)
  generalize ((w.alloc (.cells #[.string P.f0, .int .i64 P.f1, .slice A2 P.f2.length c2, .slice A3 P.f3.length c3, .slice A4 P.f4.length c4, .int .i64 P.f5, .slice A6 P.f6.length c6, .slice A7 P.f7.length c7, .slice A8 P.f8.length c8, .slice A9 P.f9.length c9] 27)).alloc (.cells #[.slice A2 P.f2.length c2, .slice A3 P.f3.length c3, .slice A4 P.f4.length c4] 22)) = W at HB0 HC ⊢
  rw [show (w.alloc (.cells #[.string P.f0, .int .i64 P.f1, .slice A2 P.f2.length c2, .slice A3 P.f3.length c3, .slice A4 P.f4.length c4, .int .i64 P.f5, .slice A6 P.f6.length c6, .slice A7 P.f7.length c7, .slice A8 P.f8.length c8, .slice A9 P.f9.length c9] 27)).heap.size = w.heap.size + 1 by simp] at HC
  have HWz := HB0.out.size
  have HGW := Aside0.mk (Glob_below HG.out HB0.out)
  clear HG G2 G3 G4
  refine (concat_any _ 3 [P.f2, P.f3, P.f4] W HC (by simp) (by unfold sumLen; simpa using hl)).mono ?_
  rintro e w1 ⟨v, rfl, hR, hB⟩
  rw [show [P.f2, P.f3, P.f4].flatten = P.f2 ++ P.f3 ++ P.f4 by simp] at hR
  obtain ⟨A, c, rfl, hc, hC⟩ := Kd.R_reads hR
  have hA : ∀ ad, A = some ad → ∃ g, ad = ⟨g, 0, none⟩ := by
    intro ad hA
    obtain ⟨inner, ho⟩ := Kd.R_own hR
    rcases ho.2 with ⟨h, _⟩ | ⟨g, cap, cur, h, _⟩
    · injection h with h1
      rw [hA] at h1
      cases h1
    · injection h with h1
      rw [hA] at h1
      exact ⟨g, Option.some.inj h1⟩
  have HG1 := Aside0.mk (Glob_below HGW.out hB)
  have HB1 := Aside0.mk (HB0.out.trans (hB.mono HWz))
  have HC1 := Aside0.mk hC
  clear hR hB HC hC HB0 HGW
  generalize hle : P.f2 ++ P.f3 ++ P.f4 = l at hl hc HC1
  go_wp2_with fail
  go_loopw [16] (fun v16 W => ∃ i : Nat, i ≤ l.length ∧ v16 = .int .i64 i ∧ Aside0 (namesGo l (l.length - i) i = namesE l) ∧ Aside0 (Glob W) ∧ Aside0 (Below w1.heap.size w1 W)) (fun v16 _ => l.length - (intOf v16).toNat)
  case atStart => exact ⟨0, Nat.zero_le _, rfl, ⟨rfl⟩, HG1, ⟨Below.refl _ _⟩⟩
  case round =>
    obtain ⟨i, hi, rfl, HE, HGr, HBr⟩ := hrel
    by_cases hlt : i < l.length
    · obtain ⟨b, hb⟩ : ∃ b, l.length - i = b + 1 := ⟨l.length - i - 1, by omega⟩
      have HE2 := HE.out
      rw [hb] at HE2
      have HCr := Aside0.mk (Kd.C_below HC1.out HBr.out)
      obtain ⟨ad, cc, rfl, hcl, hK, hcell⟩ := ReadsRow.get_ HCr.out ByteArray.empty (i : Int) (by omega) (by omega)
      obtain rfl : cc = [.string (l.getD i ByteArray.empty)] := hK
      obtain ⟨g, rfl⟩ := hA _ rfl
      have hx : wr.cell? ⟨g, i, none⟩ = some (.string (l.getD i ByteArray.empty)) := by simpa [Kd.string, Kd.scalar, Addr.add_lit] using hcell 0 _ rfl
      unfold namesGo at HE2
      have hcs : ∀ W', Below wr.heap.size wr W' → ∀ j, j < l.length → W'.cell? ⟨g, 0 + j, none⟩ = some (.string (l.getD j ByteArray.empty)) := by
        intro W' hb' j hj
        obtain ⟨ad, cc, he, _, hK, hcell⟩ := ReadsRow.get_ (Kd.C_below HCr.out hb') ByteArray.empty (j : Int) (by omega) (by omega)
        obtain rfl := Option.some.inj he
        obtain rfl : cc = [.string (l.getD j ByteArray.empty)] := hK
        simpa [Kd.string, Kd.scalar, Addr.add_lit] using hcell 0 _ rfl
      have HCS := Aside0.mk hcs
      clear hcell hcl HE hcs
      generalize l.getD i ByteArray.empty = s at hx HE2
      have HE3 := Aside0.mk HE2
      clear HE2
      go_wp2_with fail
      refine (protocol_ValidName.calls s (validB s) wr HGr.out rfl).mono ?_
      rintro e w2 ⟨rfl, hB⟩
      have HB2 := Aside0.mk hB
      have HG2 := Aside0.mk (Glob_below HGr.out hB)
      clear hB
      cases hv : validB s with
      | false =>
        rw [hv] at HE3
        simp only [Bool.not_false, Bool.true_or, if_true] at HE3
        go_wp2_with fail
        go_ret
        exact ⟨by rw [hle, ← HE3.out]; rfl, HB1.out.trans ((HBr.out.trans (HB2.out.mono HBr.out.size)).mono HB1.out.size)⟩
      | true =>
        rw [hv] at HE3
        simp only [Bool.not_true, Bool.false_or] at HE3
        go_wp2_with fail
        refine (Tryd.slices_Contains_string g 0 i c l s w2 hi (by omega) (HCS.out _ HB2.out)).mono ?_
        rintro e w3 ⟨rfl, rfl⟩
        cases hcn : Lib.containsS (l.take i) s with
        | true =>
          rw [hcn, if_pos rfl] at HE3
          go_wp2_with fail
          go_ret
          exact ⟨by rw [hle, ← HE3.out]; rfl, HB1.out.trans ((HBr.out.trans (HB2.out.mono HBr.out.size)).mono HB1.out.size)⟩
        | false =>
          rw [hcn, if_neg (by decide)] at HE3
          go_wp2_with fail
          go_roundw
          case rel => exact ⟨i + 1, by omega, by go_num, ⟨by rw [show l.length - (i + 1) = b by omega]; exact HE3.out⟩, HG2, ⟨HBr.out.trans (HB2.out.mono HBr.out.size)⟩⟩
          case measure => simp [intOf]; omega
    · have hi2 : i = l.length := by omega
      subst hi2
      rw [Nat.sub_self] at HE
      go_wp2_with fail
      go_ret
      exact ⟨by rw [hle, ← HE.out]; rfl, HB1.out.trans (HBr.out.mono HB1.out.size)⟩
end Go.Proofs.YtoggkfapdomhgaaDoor.Pr
