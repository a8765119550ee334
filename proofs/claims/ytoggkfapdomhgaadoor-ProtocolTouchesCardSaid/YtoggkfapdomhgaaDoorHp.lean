/- Weak contracts of slices.EqualFunc at rules and of Equal: equal contents give true. Conditions: each theorem's own premises. -/
import Derived.Test.YtoggkfapdomhgaaDoorHo
import Derived.Test.YtoggkfapdomhgaaDoorEv
namespace Go.Proofs.YtoggkfapdomhgaaDoor.Pr
open Go.RowKit Go.Proofs.YtoggkfapdomhgaaDoorW.PrintWords Go.Proofs.YtoggkfapdomhgaaDoorW.PrintLast Go.Proofs.YtoggkfapdomhgaaDoorW.PrintMore
set_option linter.unusedVariables false
set_option linter.unusedSimpArgs false
set_option maxRecDepth 100000
/-- A store of a whole struct into a block. -/
theorem store_all {P : Program} {ops : Array Oper} {rest : List Oper} {os : Oper} {a : Act} {Q : Exit → Act → World → Prop} {W : World} (t : TypeId) (y v : Operand) (hgs : os.guard = none) (hds : os.dst = none) (hos : os.op = .store t y v)
    (gy : Nat) (c cs : Array Value) (hy : a.eval y = .pointer (some ⟨gy, 0, none⟩)) (hv : a.eval v = .agg cs) (hby : W.heap[gy]? = some (.cells c t (0, 0))) (hi : (P.info? t).map (·.size) = some cs.size) (hc : c.size = cs.size) (h1 : cs.all (·.oneCell') = true)
    (h : ∀ w1, w1.heap[gy]? = some (.cells cs t (0, 0)) → (∀ k, k ≠ gy → w1.heap[k]? = W.heap[k]?) → (∀ B w0, Below B w0 W → B ≤ gy → Below B w0 w1) → wpList P ops Q rest a w1) :
    wpList P ops Q (os :: rest) a W := by
  have ht : W.there gy 0 cs.size := fun j hj => by
    rw [Nat.zero_add]
    exact ⟨by rw [blk_cell hby j, Array.getElem?_eq_getElem (by omega)]; rfl, blk_frozen hby j⟩
  refine wpList_store_mid hgs t y v hos gy 0 cs hy hv ht hi h1 ?_
  rw [hds]
  obtain ⟨q1, q2, q3⟩ := sets_all hby hc
  exact h _ q1 q2 q3
/-- What a function value says of two rules. -/
def Says2 (g : Nat) : Prop := ∀ (W : World) (x y : S30) (cs ds : List Value), k30.K W x cs → k30.K W y ds → Calls Tryd.prog g #[.agg cs.toArray, .agg ds.toArray] W fun e w' => Weak1 x y W w' e
set_option maxHeartbeats 4000000 in
theorem equalFunc_weak (f : Nat) (A : Option Addr) (c : Nat) (xs : List S30) (B : Option Addr) (d : Nat) (ys : List S30) (w : World) (hA : Kd.C k30 w A xs.length xs) (hB : Kd.C k30 w B ys.length ys) (hs : Says2 f) (eg : ∀ args w, (callFunc f args).run Tryd.prog w = .ok (.enter f args) w) :
    Calls Tryd.prog 20 #[.slice A xs.length c, .slice B ys.length d, .func (.func f) #[] #[]] w fun e w' => Weak xs ys w w' e := by
  have HA := Aside0.mk hA
  have HBy := Aside0.mk hB
  have HS := Aside0.mk hs
  have hmax := hA.2.1
  clear hA hB hs
  by_cases hn : xs.length = ys.length
  case neg =>
    have d0 : ((xs.length : Int) != (ys.length : Int)) = true := by rw [bne_iff_ne]; omega
    go_enter Tryd.func20, Tryd.ntmps20
    go_wp2_with fail
    go_ret
    exact ⟨_, rfl, fun h => absurd (by rw [h]) hn, fun _ => rfl, Below.refl _ _⟩
  have HN := Aside0.mk hn
  rw [← hn] at HBy ⊢
  clear hn
  go_enter Tryd.func20, Tryd.ntmps20
  go_wp2_with fail
  go_loopw [17] (fun v17 W => ∃ i : Nat, i ≤ xs.length ∧ v17 = .int .i64 i ∧ Aside0 (Below w.heap.size w W)) (fun v17 _ => xs.length - (intOf v17).toNat)
  case atStart => exact ⟨0, Nat.zero_le _, rfl, ⟨Below.refl _ _⟩⟩
  case round =>
    obtain ⟨i, hi, rfl, HB⟩ := hrel
    by_cases hlt : i < xs.length
    · obtain ⟨ad, cs, rfl, hK, hn, hc⟩ := at_rule (Kd.C_below HA.out HB.out) i hlt
      obtain ⟨bd, ds, rfl, hL, hm, hd⟩ := at_rule (Kd.C_below HBy.out HB.out) i hlt
      have HK := Aside0.mk hK
      have HL := Aside0.mk hL
      obtain ⟨A6, c6, A7, c7, A8, c8, A9, c9, A12, c12, A14, c14, A15, c15, A16, c16, rfl, _⟩ := k30_open hK
      obtain ⟨B6, d6, B7, d7, B8, d8, B9, d9, B12, d12, B14, d14, B15, d15, B16, d16, rfl, _⟩ := k30_open hL
      have HX := Aside0.mk hc
      have HY := Aside0.mk hd
      clear hK hL hc hd hn hm
      obtain ⟨R, hR⟩ : ∃ R, R = xs.getD i z30 := ⟨_, rfl⟩
      obtain ⟨S, hS⟩ : ∃ S, S = ys.getD i z30 := ⟨_, rfl⟩
      rw [← hR] at HK HX
      rw [← hS] at HL HY
      have HR := Aside0.mk hR
      have HSs := Aside0.mk hS
      clear hR hS
      have hil : (i : Int) < (xs.length : Int) := by omega
      go_wp2_with (first
        | ((with_reducible refine gate_dst (N := 21) rfl ?_); refine Kd.event_run rfl (load_run 30 (.tmp 20) rfl (ad.add (i * 18)) (by go_simp) [.string R.f0, .int .i64 R.f1, .int .i64 R.f2, .int .i64 R.f3, .int .i64 R.f4, .int .i64 R.f5, .slice A6 R.f6.length c6, .slice A7 R.f7.length c7, .slice A8 R.f8.length c8, .slice A9 R.f9.length c9, .int .i64 R.f10, .int .i64 R.f11, .slice A12 R.f12.length c12, .int .i64 R.f13, .slice A14 R.f14.length c14, .slice A15 R.f15.length c15, .slice A16 R.f16.length c16, .int .i64 R.f17] (fun w => Tryd.sizeOf30 w) Tryd.isAgg30 HX.out) ?_)
        | ((with_reducible refine gate_dst (N := 8) rfl ?_); refine box_event rfl (N := 8) rfl (cs := #[.string (⟨#[]⟩ : ByteArray), .int .i64 0, .int .i64 0, .int .i64 0, .int .i64 0, .int .i64 0, .slice none 0 0, .slice none 0 0, .slice none 0 0, .slice none 0 0, .int .i64 0, .int .i64 0, .slice none 0 0, .int .i64 0, .slice none 0 0, .slice none 0 0, .slice none 0 0, .int .i64 0]) (t := 30) (by first | (go_simp; done) | (go_simp; rfl)) ?_; intro g8 hg8 w2 hb8 hbw; have hwg : wr.heap.size ≤ g8 := Nat.le_of_eq hg8.symm; clear hg8; refine Halt.go ?_))
      unfold Halt
      have BP := Aside0.mk hb8
      have HB2 := Aside0.mk (HB.out.trans (hbw.mono HB.out.size))
      have HBW := Aside0.mk hbw
      have hgg : w.heap.size ≤ g8 := Nat.le_trans HB.out.size hwg
      clear hb8 hbw HX
      go_wp2_with (refine store_all 30 (.tmp 8) (.tmp 21) rfl rfl rfl g8 #[.string (⟨#[]⟩ : ByteArray), .int .i64 0, .int .i64 0, .int .i64 0, .int .i64 0, .int .i64 0, .slice none 0 0, .slice none 0 0, .slice none 0 0, .slice none 0 0, .int .i64 0, .int .i64 0, .slice none 0 0, .int .i64 0, .slice none 0 0, .slice none 0 0, .slice none 0 0, .int .i64 0] #[.string R.f0, .int .i64 R.f1, .int .i64 R.f2, .int .i64 R.f3, .int .i64 R.f4, .int .i64 R.f5, .slice A6 R.f6.length c6, .slice A7 R.f7.length c7, .slice A8 R.f8.length c8, .slice A9 R.f9.length c9, .int .i64 R.f10, .int .i64 R.f11, .slice A12 R.f12.length c12, .int .i64 R.f13, .slice A14 R.f14.length c14, .slice A15 R.f15.length c15, .slice A16 R.f16.length c16, .int .i64 R.f17] (by go_simp) (by go_simp) BP.out (by kernel_rfl) rfl (by simp [Value.oneCell']) ?_; intro w3 hb3 hm3 hB3; refine Halt.go ?_)
      unfold Halt
      have BP3 := Aside0.mk hb3
      have HB3 := Aside0.mk (hB3 _ _ HB2.out hgg)
      have HW3 := Aside0.mk (hB3 _ _ HBW.out hwg)
      clear BP hb3 hm3 hB3 HB2 HBW
      go_wp2_with ((with_reducible refine gate_dst (N := 25) rfl ?_); refine Kd.event_run rfl (load_run 30 (.tmp 24) rfl (bd.add (i * 18)) (by go_simp) [.string S.f0, .int .i64 S.f1, .int .i64 S.f2, .int .i64 S.f3, .int .i64 S.f4, .int .i64 S.f5, .slice B6 S.f6.length d6, .slice B7 S.f7.length d7, .slice B8 S.f8.length d8, .slice B9 S.f9.length d9, .int .i64 S.f10, .int .i64 S.f11, .slice B12 S.f12.length d12, .int .i64 S.f13, .slice B14 S.f14.length d14, .slice B15 S.f15.length d15, .slice B16 S.f16.length d16, .int .i64 S.f17] (fun w => Tryd.sizeOf30 w) Tryd.isAgg30 (fun j v hv => (HW3.out.cell (World.block_lt_of_cell? _ _ (HY.out j v hv))).trans (HY.out j v hv))) ?_; refine Halt.go ?_)
      unfold Halt
      refine new_event rfl rfl #[.string (⟨#[]⟩ : ByteArray), .int .i64 0, .int .i64 0, .int .i64 0, .int .i64 0, .int .i64 0, .slice none 0 0, .slice none 0 0, .slice none 0 0, .slice none 0 0, .int .i64 0, .int .i64 0, .slice none 0 0, .int .i64 0, .slice none 0 0, .slice none 0 0, .slice none 0 0, .int .i64 0] #[.string S.f0, .int .i64 S.f1, .int .i64 S.f2, .int .i64 S.f3, .int .i64 S.f4, .int .i64 S.f5, .slice B6 S.f6.length d6, .slice B7 S.f7.length d7, .slice B8 S.f8.length d8, .slice B9 S.f9.length d9, .int .i64 S.f10, .int .i64 S.f11, .slice B12 S.f12.length d12, .int .i64 S.f13, .slice B14 S.f14.length d14, .slice B15 S.f15.length d15, .slice B16 S.f16.length d16, .int .i64 S.f17] 30 ?k1 rfl rfl (.tmp 9) (.tmp 25) rfl ?k2 ?k3 ?k4 ?k5 ?k6 ?_
      case k1 => first | (go_simp; done) | (go_simp; rfl)
      case k2 => go_simp
      case k3 => go_simp
      case k4 => kernel_rfl
      case k5 => rfl
      case k6 => simp [Value.oneCell']
      intro g9 hg9 w4 hb9 hbw
      have BQ4 := Aside0.mk hb9
      have BP4 := Aside0.mk (blk_below BP3.out hbw)
      have HB4 := Aside0.mk (HB3.out.trans (hbw.mono HB3.out.size))
      have HW4 := Aside0.mk (HW3.out.trans (hbw.mono HW3.out.size))
      clear hb9 hbw hg9 BP3 HB3 HW3 HY
      go_wp2_with (first | ((with_reducible refine gate_dst (N := 27) rfl ?_); (try (refine gate_guard (by rfl) ?_; dsimp only)); refine Kd.event_run rfl (load_run 30 (.tmp 8) rfl ⟨g8, 0, none⟩ (by go_simp) [.string R.f0, .int .i64 R.f1, .int .i64 R.f2, .int .i64 R.f3, .int .i64 R.f4, .int .i64 R.f5, .slice A6 R.f6.length c6, .slice A7 R.f7.length c7, .slice A8 R.f8.length c8, .slice A9 R.f9.length c9, .int .i64 R.f10, .int .i64 R.f11, .slice A12 R.f12.length c12, .int .i64 R.f13, .slice A14 R.f14.length c14, .slice A15 R.f15.length c15, .slice A16 R.f16.length c16, .int .i64 R.f17] (fun w => Tryd.sizeOf30 w) Tryd.isAgg30 (fun j v hj => by rw [Addr.add_lit, Nat.zero_add]; exact (blk_cell BP4.out j).trans (by simpa using hj))) ?_) | ((with_reducible refine gate_dst (N := 28) rfl ?_); (try (refine gate_guard (by rfl) ?_; dsimp only)); refine Kd.event_run rfl (load_run 30 (.tmp 9) rfl ⟨g9, 0, none⟩ (by go_simp) [.string S.f0, .int .i64 S.f1, .int .i64 S.f2, .int .i64 S.f3, .int .i64 S.f4, .int .i64 S.f5, .slice B6 S.f6.length d6, .slice B7 S.f7.length d7, .slice B8 S.f8.length d8, .slice B9 S.f9.length d9, .int .i64 S.f10, .int .i64 S.f11, .slice B12 S.f12.length d12, .int .i64 S.f13, .slice B14 S.f14.length d14, .slice B15 S.f15.length d15, .slice B16 S.f16.length d16, .int .i64 S.f17] (fun w => Tryd.sizeOf30 w) Tryd.isAgg30 (fun j v hj => by rw [Addr.add_lit, Nat.zero_add]; exact (blk_cell BQ4.out j).trans (by simpa using hj))) ?_))
      refine (HS.out _ R S _ _ (k30.K_below HW4.out HK.out) (k30.K_below HW4.out HL.out)).mono ?_
      rintro e w5 ⟨b, rfl, hb, hB⟩
      have HW := Aside0.mk hb
      have HB5 := Aside0.mk (HB4.out.trans (hB.mono HB4.out.size))
      clear hb hB
      cases b
      · go_wp2_with fail
        go_ret
        exact ⟨_, rfl, fun h => absurd (HW.out (by rw [HR.out, HSs.out, h])) (by decide), fun h => absurd HN.out h, HB5.out⟩
      · go_wp2_with fail
        go_roundw
        case rel => exact ⟨i + 1, by omega, by go_num, HB5⟩
        case measure => simp [intOf]; omega
    · have hi2 : i = xs.length := by omega
      subst hi2
      go_wp2_with fail
      go_ret
      exact ⟨_, rfl, fun _ => rfl, fun h => absurd HN.out h, HB.out⟩
theorem equalRule_says : Says2 21 := fun W x y cs ds hx hy => equalRule_weak x y cs ds W hx hy
set_option maxHeartbeats 8000000 in
theorem equal_weak (P Q : S27) (cs ds : List Value) (w : World) (hP : k27.K w P cs) (hQ : k27.K w Q ds) :
    Calls Tryd.prog 9 #[.agg cs.toArray, .agg ds.toArray] w fun e w' => Weak1 P Q w w' e := by
  obtain ⟨A2, c2, A3, c3, A4, c4, A6, c6, A7, c7, A8, c8, A9, c9, rfl, _, ga2, _, ga3, _, ga4, _, ga6, _, ga7, _, ga8, _, ga9⟩ := k27_open hP
  obtain ⟨B2, d2, B3, d3, B4, d4, B6, d6, B7, d7, B8, d8, B9, d9, rfl, _, gb2, _, gb3, _, gb4, _, gb6, _, gb7, _, gb8, _, gb9⟩ := k27_open hQ
  have GA2 := Aside0.mk ga2
  have GB2 := Aside0.mk gb2
  have GA3 := Aside0.mk ga3
  have GB3 := Aside0.mk gb3
  have GA4 := Aside0.mk ga4
  have GB4 := Aside0.mk gb4
  have GA6 := Aside0.mk ga6
  have GB6 := Aside0.mk gb6
  have GA7 := Aside0.mk ga7
  have GB7 := Aside0.mk gb7
  have GA8 := Aside0.mk ga8
  have GB8 := Aside0.mk gb8
  have GA9 := Aside0.mk ga9
  have GB9 := Aside0.mk gb9
  clear hP hQ ga2 gb2 ga3 gb3 ga4 gb4 ga6 gb6 ga7 gb7 ga8 gb8 ga9 gb9
  go_enter Tryd.func9, Tryd.ntmps9
  go_upto_region 1 with (fail)
  obtain ⟨g, hg⟩ : ∃ g, g = w.heap.size := ⟨_, rfl⟩
  obtain ⟨g2, hg2e⟩ : ∃ g2, g2 = w.heap.size + 1 := ⟨_, rfl⟩
  obtain ⟨w1, hw1⟩ : ∃ w1, w1 = (w.alloc (.cells #[.string P.f0, .int .i64 P.f1, .slice A2 P.f2.length c2, .slice A3 P.f3.length c3, .slice A4 P.f4.length c4, .int .i64 P.f5, .slice A6 P.f6.length c6, .slice A7 P.f7.length c7, .slice A8 P.f8.length c8, .slice A9 P.f9.length c9] 27)).alloc (.cells #[.string Q.f0, .int .i64 Q.f1, .slice B2 Q.f2.length d2, .slice B3 Q.f3.length d3, .slice B4 Q.f4.length d4, .int .i64 Q.f5, .slice B6 Q.f6.length d6, .slice B7 Q.f7.length d7, .slice B8 Q.f8.length d8, .slice B9 Q.f9.length d9] 27) := ⟨_, rfl⟩
  rw [← hw1]
  have BP : Aside0 (w1.heap[g]? = some (.cells #[.string P.f0, .int .i64 P.f1, .slice A2 P.f2.length c2, .slice A3 P.f3.length c3, .slice A4 P.f4.length c4, .int .i64 P.f5, .slice A6 P.f6.length c6, .slice A7 P.f7.length c7, .slice A8 P.f8.length c8, .slice A9 P.f9.length c9] 27 (0, 0))) := ⟨by rw [hw1, hg]; exact blk_alloc (heap_alloc_new w _) _⟩
  have BQ : Aside0 (w1.heap[g2]? = some (.cells #[.string Q.f0, .int .i64 Q.f1, .slice B2 Q.f2.length d2, .slice B3 Q.f3.length d3, .slice B4 Q.f4.length d4, .int .i64 Q.f5, .slice B6 Q.f6.length d6, .slice B7 Q.f7.length d7, .slice B8 Q.f8.length d8, .slice B9 Q.f9.length d9] 27 (0, 0))) := ⟨by rw [hw1, hg2e, show w.heap.size + 1 = (w.alloc (.cells #[.string P.f0, .int .i64 P.f1, .slice A2 P.f2.length c2, .slice A3 P.f3.length c3, .slice A4 P.f4.length c4, .int .i64 P.f5, .slice A6 P.f6.length c6, .slice A7 P.f7.length c7, .slice A8 P.f8.length c8, .slice A9 P.f9.length c9] 27)).heap.size from by simp]; exact heap_alloc_new _ _⟩
  have HB : Aside0 (Below w.heap.size w w1) := ⟨by rw [hw1]; exact ((Below.refl _ _).alloc (Nat.le_refl _) _).alloc (by simp) _⟩
  simp only [← hg2e]
  simp only [← hg]
  clear hw1 hg hg2e
  have x2 : w1.cell? ⟨g, 2, none⟩ = some (.slice A2 P.f2.length c2) := (blk_cell BP.out 2).trans rfl
  have y2 : w1.cell? ⟨g2, 2, none⟩ = some (.slice B2 Q.f2.length d2) := (blk_cell BQ.out 2).trans rfl
  go_wp2_with fail
  refine (eqS_any A2 c2 P.f2 B2 d2 Q.f2 _ (Kd.C_below GA2.out HB.out) (Kd.C_below GB2.out HB.out)).mono ?_
  rintro e w2 ⟨b2, rfl, hb2, _, hB⟩
  have HW2 := Aside0.mk hb2
  clear hb2 x2 y2
  have n0_ := Aside0.mk (blk_below BP.out hB)
  have n1_ := Aside0.mk (blk_below BQ.out hB)
  have n2_ := Aside0.mk (HB.out.trans (Below.mono hB HB.out.size))
  clear BP BQ HB
  have BP := n0_
  have BQ := n1_
  have HB := n2_
  clear n0_ n1_ n2_
  clear hB
  cases b2
  case false =>
    go_wp2_with fail
    go_ret
    exact ⟨_, rfl, fun h => absurd (HW2.out (by rw [h])) (by decide), HB.out⟩
  have x3 : w2.cell? ⟨g, 3, none⟩ = some (.slice A3 P.f3.length c3) := (blk_cell BP.out 3).trans rfl
  have y3 : w2.cell? ⟨g2, 3, none⟩ = some (.slice B3 Q.f3.length d3) := (blk_cell BQ.out 3).trans rfl
  go_wp2_with fail
  refine (eqS_any A3 c3 P.f3 B3 d3 Q.f3 _ (Kd.C_below GA3.out HB.out) (Kd.C_below GB3.out HB.out)).mono ?_
  rintro e w3 ⟨b3, rfl, hb3, _, hB⟩
  have HW3 := Aside0.mk hb3
  clear hb3 x3 y3
  have n0_ := Aside0.mk (blk_below BP.out hB)
  have n1_ := Aside0.mk (blk_below BQ.out hB)
  have n2_ := Aside0.mk (HB.out.trans (Below.mono hB HB.out.size))
  clear BP BQ HB
  have BP := n0_
  have BQ := n1_
  have HB := n2_
  clear n0_ n1_ n2_
  clear hB
  cases b3
  case false =>
    go_wp2_with fail
    go_ret
    exact ⟨_, rfl, fun h => absurd (HW3.out (by rw [h])) (by decide), HB.out⟩
  have x4 : w3.cell? ⟨g, 4, none⟩ = some (.slice A4 P.f4.length c4) := (blk_cell BP.out 4).trans rfl
  have y4 : w3.cell? ⟨g2, 4, none⟩ = some (.slice B4 Q.f4.length d4) := (blk_cell BQ.out 4).trans rfl
  go_wp2_with fail
  refine (eqS_any A4 c4 P.f4 B4 d4 Q.f4 _ (Kd.C_below GA4.out HB.out) (Kd.C_below GB4.out HB.out)).mono ?_
  rintro e w4 ⟨b4, rfl, hb4, _, hB⟩
  have HW4 := Aside0.mk hb4
  clear hb4 x4 y4
  have n0_ := Aside0.mk (blk_below BP.out hB)
  have n1_ := Aside0.mk (blk_below BQ.out hB)
  have n2_ := Aside0.mk (HB.out.trans (Below.mono hB HB.out.size))
  clear BP BQ HB
  have BP := n0_
  have BQ := n1_
  have HB := n2_
  clear n0_ n1_ n2_
  clear hB
  cases b4
  case false =>
    go_wp2_with fail
    go_ret
    exact ⟨_, rfl, fun h => absurd (HW4.out (by rw [h])) (by decide), HB.out⟩
  have x6 : w4.cell? ⟨g, 6, none⟩ = some (.slice A6 P.f6.length c6) := (blk_cell BP.out 6).trans rfl
  have y6 : w4.cell? ⟨g2, 6, none⟩ = some (.slice B6 Q.f6.length d6) := (blk_cell BQ.out 6).trans rfl
  go_wp2_with fail
  refine (eqL_any A6 c6 P.f6 B6 d6 Q.f6 _ (Kd.C_below GA6.out HB.out) (Kd.C_below GB6.out HB.out)).mono ?_
  rintro e w5 ⟨b6, rfl, hb6, _, hB⟩
  have HW6 := Aside0.mk hb6
  clear hb6 x6 y6
  have n0_ := Aside0.mk (blk_below BP.out hB)
  have n1_ := Aside0.mk (blk_below BQ.out hB)
  have n2_ := Aside0.mk (HB.out.trans (Below.mono hB HB.out.size))
  clear BP BQ HB
  have BP := n0_
  have BQ := n1_
  have HB := n2_
  clear n0_ n1_ n2_
  clear hB
  cases b6
  case false =>
    go_wp2_with fail
    go_ret
    exact ⟨_, rfl, fun h => absurd (HW6.out (by rw [h])) (by decide), HB.out⟩
  have x7 : w5.cell? ⟨g, 7, none⟩ = some (.slice A7 P.f7.length c7) := (blk_cell BP.out 7).trans rfl
  have y7 : w5.cell? ⟨g2, 7, none⟩ = some (.slice B7 Q.f7.length d7) := (blk_cell BQ.out 7).trans rfl
  go_wp2_with fail
  refine (eqI_any A7 c7 P.f7 B7 d7 Q.f7 _ (Kd.C_below GA7.out HB.out) (Kd.C_below GB7.out HB.out)).mono ?_
  rintro e w6 ⟨b7, rfl, hb7, _, hB⟩
  have HW7 := Aside0.mk hb7
  clear hb7 x7 y7
  have n0_ := Aside0.mk (blk_below BP.out hB)
  have n1_ := Aside0.mk (blk_below BQ.out hB)
  have n2_ := Aside0.mk (HB.out.trans (Below.mono hB HB.out.size))
  clear BP BQ HB
  have BP := n0_
  have BQ := n1_
  have HB := n2_
  clear n0_ n1_ n2_
  clear hB
  cases b7
  case false =>
    go_wp2_with fail
    go_ret
    exact ⟨_, rfl, fun h => absurd (HW7.out (by rw [h])) (by decide), HB.out⟩
  have x8 : w6.cell? ⟨g, 8, none⟩ = some (.slice A8 P.f8.length c8) := (blk_cell BP.out 8).trans rfl
  have y8 : w6.cell? ⟨g2, 8, none⟩ = some (.slice B8 Q.f8.length d8) := (blk_cell BQ.out 8).trans rfl
  go_wp2_with fail
  refine (eqI_any A8 c8 P.f8 B8 d8 Q.f8 _ (Kd.C_below GA8.out HB.out) (Kd.C_below GB8.out HB.out)).mono ?_
  rintro e w7 ⟨b8, rfl, hb8, _, hB⟩
  have HW8 := Aside0.mk hb8
  clear hb8 x8 y8
  have n0_ := Aside0.mk (blk_below BP.out hB)
  have n1_ := Aside0.mk (blk_below BQ.out hB)
  have n2_ := Aside0.mk (HB.out.trans (Below.mono hB HB.out.size))
  clear BP BQ HB
  have BP := n0_
  have BQ := n1_
  have HB := n2_
  clear n0_ n1_ n2_
  clear hB
  cases b8
  case false =>
    go_wp2_with fail
    go_ret
    exact ⟨_, rfl, fun h => absurd (HW8.out (by rw [h])) (by decide), HB.out⟩
  have x0 : w7.cell? ⟨g, 0, none⟩ = some (.string P.f0) := (blk_cell BP.out 0).trans rfl
  have y0 : w7.cell? ⟨g2, 0, none⟩ = some (.string Q.f0) := (blk_cell BQ.out 0).trans rfl
  have x1 : w7.cell? ⟨g, 1, none⟩ = some (.int .i64 P.f1) := (blk_cell BP.out 1).trans rfl
  have y1 : w7.cell? ⟨g2, 1, none⟩ = some (.int .i64 Q.f1) := (blk_cell BQ.out 1).trans rfl
  have x5 : w7.cell? ⟨g, 5, none⟩ = some (.int .i64 P.f5) := (blk_cell BP.out 5).trans rfl
  have y5 : w7.cell? ⟨g2, 5, none⟩ = some (.int .i64 Q.f5) := (blk_cell BQ.out 5).trans rfl
  have x9 : w7.cell? ⟨g, 9, none⟩ = some (.slice A9 P.f9.length c9) := (blk_cell BP.out 9).trans rfl
  have y9 : w7.cell? ⟨g2, 9, none⟩ = some (.slice B9 Q.f9.length d9) := (blk_cell BQ.out 9).trans rfl
  by_cases c : P.f0.toList = Q.f0.toList
  case neg =>
    have q : (P.f0.toList == Q.f0.toList) = false := by rw [beq_eq_false_iff_ne]; exact c
    go_wp2_with fail
    go_ret
    exact ⟨_, rfl, fun h => absurd (by rw [h]) c, HB.out⟩
  have q0 : (P.f0.toList == Q.f0.toList) = true := by rw [beq_iff_eq]; exact c
  clear c
  by_cases c : P.f1 = Q.f1
  case neg =>
    have q : (P.f1 == Q.f1) = false := beq_eq_false_iff_ne.mpr c
    go_wp2_with fail
    go_ret
    exact ⟨_, rfl, fun h => absurd (by rw [h]) c, HB.out⟩
  have q1 : (P.f1 == Q.f1) = true := beq_iff_eq.mpr c
  clear c
  by_cases c : P.f5 = Q.f5
  case neg =>
    have q : (P.f5 == Q.f5) = false := beq_eq_false_iff_ne.mpr c
    go_wp2_with fail
    go_ret
    exact ⟨_, rfl, fun h => absurd (by rw [h]) c, HB.out⟩
  have q5 : (P.f5 == Q.f5) = true := beq_iff_eq.mpr c
  clear c
  go_wp2_with fail
  refine (equalFunc_weak 21 A9 c9 P.f9 B9 d9 Q.f9 _ (Kd.C_below GA9.out HB.out) (Kd.C_below GB9.out HB.out) equalRule_says (fun args w => enters_ Tryd.func21 (by kernel_rfl) rfl args w)).mono ?_
  rintro e w8 ⟨b, rfl, hb, _, hB⟩
  have HW := Aside0.mk hb
  have HB8 := Aside0.mk (HB.out.trans (hB.mono HB.out.size))
  clear hb hB x0 y0 x1 y1 x5 y5 x9 y9 q0 q1 q5
  go_wp2_with fail
  go_ret
  exact ⟨_, rfl, fun h => HW.out (by rw [h]), HB8.out⟩
end Go.Proofs.YtoggkfapdomhgaaDoor.Pr
