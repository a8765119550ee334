/- Contracts of slices.Index and Contains at thresholds, and of thresholds; conditions: each theorem's own premises. -/
import Derived.Test.YtoggkfapdomhgaaDoorPx1
import Derived.Test.YtoggkfapdomhgaaDoorHi
namespace Go.Proofs.YtoggkfapdomhgaaDoor.Pr
open Go.RowKit Go.Proofs.YtoggkfapdomhgaaDoorW.PrintWords Go.Proofs.YtoggkfapdomhgaaDoorW.PrintLast Go.Proofs.YtoggkfapdomhgaaDoorW.PrintMore
attribute [local go_sem high] eqA93
set_option linter.unusedVariables false
set_option linter.unusedSimpArgs false
set_option maxRecDepth 100000
def eqT (x y : S93) : Bool := x.f0 == y.f0 && (x.f1 == y.f1 && ((x.f2.f0 == y.f2.f0 && (x.f2.f1 == y.f2.f1 && (x.f2.f2 == y.f2.f2 && (x.f2.f3 == y.f2.f3))))))
/-- The first place of x in what is left of l, or -1. -/
def idxT (l : List S93) (x : S93) : Nat → Nat → Int
  | 0, _ => -1
  | b + 1, i => if eqT x (l.getD i z93) = true then (i : Int) else idxT l x b (i + 1)
theorem idxT_any (l : List S93) (x : S93) : ∀ b i, i + b = l.length → decide ((0 : Int) ≤ idxT l x b i) = (l.drop i).any (eqT x)
  | 0, i, h => by
    rw [List.drop_eq_nil_of_le (by omega)]
    rfl
  | b + 1, i, h => by
    have hi : i < l.length := by omega
    rw [List.drop_eq_getElem_cons hi, List.any_cons]
    unfold idxT
    rw [List.getD_eq_getElem?_getD, List.getElem?_eq_getElem hi, Option.getD_some]
    cases hq : eqT x l[i]
    · rw [if_neg (by decide), Bool.false_or]
      exact idxT_any l x b (i + 1) (by omega)
    · rw [if_pos rfl, Bool.true_or]
      exact decide_eq_true (by omega)
set_option maxHeartbeats 2000000 in
theorem idxT_calls (A : Option Addr) (c : Nat) (l : List S93) (x : S93) (w : World) (hC : Kd.C k93 w A l.length l) :
    Calls Tryd.prog 73 #[.slice A l.length c, .agg #[.int .i64 x.f0, .int .i64 x.f1, .int .i64 x.f2.f0, .int .i64 x.f2.f1, .int .i64 x.f2.f2, .int .i64 x.f2.f3]] w fun e w' => e = .returned (.int .i64 (idxT l x l.length 0)) ∧ Below w.heap.size w w' := by
  have HC := Aside0.mk hC
  have hmax := hC.2.1
  clear hC
  go_enter Tryd.func73, Tryd.ntmps73
  go_wp2_with fail
  obtain ⟨w1, hw1⟩ : ∃ w1, w1 = w.alloc (.cells #[.int .i64 x.f0, .int .i64 x.f1, .int .i64 x.f2.f0, .int .i64 x.f2.f1, .int .i64 x.f2.f2, .int .i64 x.f2.f3] 93) := ⟨_, rfl⟩
  rw [← hw1]
  have BX : Aside0 (w1.heap[w.heap.size]? = some (.cells #[.int .i64 x.f0, .int .i64 x.f1, .int .i64 x.f2.f0, .int .i64 x.f2.f1, .int .i64 x.f2.f2, .int .i64 x.f2.f3] 93 (0, 0))) := ⟨by rw [hw1]; exact heap_alloc_new _ _⟩
  have HB1 : Aside0 (Below w.heap.size w w1) := ⟨by rw [hw1]; exact (Below.refl _ _).alloc (Nat.le_refl _) _⟩
  clear hw1
  obtain ⟨r0, hr0⟩ : ∃ r, idxT l x l.length 0 = r := ⟨_, rfl⟩
  have HR0 := Aside0.mk hr0
  clear hr0
  go_loopw [8] (fun v8 W => ∃ i : Nat, i ≤ l.length ∧ v8 = .int .i64 i ∧ Aside0 (idxT l x (l.length - i) i = r0) ∧ Aside0 (∃ n, W = w1.drewN n)) (fun v8 _ => l.length - (intOf v8).toNat)
  case atStart => exact ⟨0, Nat.zero_le _, rfl, HR0, ⟨0, rfl⟩⟩
  case round =>
    obtain ⟨i, hi, rfl, HE, ⟨n, rfl⟩⟩ := hrel
    by_cases hlt : i < l.length
    · have HCr := Aside0.mk (Kd.C_below HC.out HB1.out)
      obtain ⟨ad, rfl, x0, x1, x2, x3, x4, x5⟩ := at_T93 HCr.out (i : Int) (by omega) (by omega)
      simp only [rd_T93, Int.toNat_natCast] at x0 x1 x2 x3 x4 x5
      obtain ⟨b, hb⟩ : ∃ b, l.length - i = b + 1 := ⟨l.length - i - 1, by omega⟩
      have HE2 := HE.out
      rw [hb] at HE2
      unfold idxT at HE2
      generalize l.getD i z93 = g at x0 x1 x2 x3 x4 x5 HE2
      have y0 : w1.cell? ⟨w.heap.size, 0, none⟩ = some (.int .i64 x.f0) := (blk_cell BX.out 0).trans rfl
      have y1 : w1.cell? ⟨w.heap.size, 1, none⟩ = some (.int .i64 x.f1) := (blk_cell BX.out 1).trans rfl
      have y2 : w1.cell? ⟨w.heap.size, 2, none⟩ = some (.int .i64 x.f2.f0) := (blk_cell BX.out 2).trans rfl
      have y3 : w1.cell? ⟨w.heap.size, 3, none⟩ = some (.int .i64 x.f2.f1) := (blk_cell BX.out 3).trans rfl
      have y4 : w1.cell? ⟨w.heap.size, 4, none⟩ = some (.int .i64 x.f2.f2) := (blk_cell BX.out 4).trans rfl
      have y5 : w1.cell? ⟨w.heap.size, 5, none⟩ = some (.int .i64 x.f2.f3) := (blk_cell BX.out 5).trans rfl
      have hie : (i : Int) < (l.length : Int) := by omega
      clear HE
      go_wp2_with fail
      go_region
      have hq : (x.f0 == g.f0 && (x.f1 == g.f1 && ((x.f2.f0 == g.f2.f0 && (x.f2.f1 == g.f2.f1 && (x.f2.f2 == g.f2.f2 && (x.f2.f3 == g.f2.f3))))))) = eqT x g := rfl
      rw [hq]
      clear hq x0 x1 x2 x3 x4 x5 y0 y1 y2 y3 y4 y5
      cases hq : eqT x g
      · rw [hq, if_neg (by decide)] at HE2
        have HE := Aside0.mk HE2
        clear HE2
        go_wp2_with fail
        go_roundw
        case rel => exact ⟨i + 1, by omega, by go_num, ⟨by rw [show l.length - (i + 1) = b by omega]; exact HE.out⟩, ⟨n + 1, rfl⟩⟩
        case measure => simp [intOf]; omega
      · rw [hq, if_pos rfl] at HE2
        have HE := Aside0.mk HE2
        clear HE2
        go_wp2_with fail
        go_ret
        exact ⟨by rw [HR0.out, ← HE.out]; rfl, by repeat (first | exact HB1.out | apply pw_below_drewN)⟩
    · have hi2 : i = l.length := by omega
      subst hi2
      rw [Nat.sub_self] at HE
      go_wp2_with fail
      go_ret
      exact ⟨by rw [HR0.out, ← HE.out]; rfl, by repeat (first | exact HB1.out | apply pw_below_drewN)⟩
theorem hasT_calls (A : Option Addr) (c : Nat) (l : List S93) (x : S93) (w : World) (hC : Kd.C k93 w A l.length l) :
    Calls Tryd.prog 61 #[.slice A l.length c, .agg #[.int .i64 x.f0, .int .i64 x.f1, .int .i64 x.f2.f0, .int .i64 x.f2.f1, .int .i64 x.f2.f2, .int .i64 x.f2.f3]] w fun e w' => e = .returned (.bool (l.any (eqT x))) ∧ Below w.heap.size w w' := by
  have HC := Aside0.mk hC
  have hd := idxT_any l x l.length 0 (by omega)
  rw [List.drop_zero] at hd
  clear hC
  have HD := Aside0.mk hd
  clear hd
  go_enter Tryd.func61, Tryd.ntmps61
  go_wp2_with fail
  refine (idxT_calls A c l x _ (Kd.C_alloc HC.out _)).mono ?_
  rintro e w' ⟨rfl, hB⟩
  have HB := Aside0.mk (((Below.refl w.heap.size w).alloc (Nat.le_refl _) _).trans (hB.mono (by simp)))
  clear hB
  generalize idxT l x l.length 0 = q at HD
  go_wp2_with fail
  go_ret
  exact ⟨by rw [← HD.out]; rfl, HB.out⟩
def thrStep (out : List S93) (g : S93) : List S93 := if out.any (eqT g) = true then out else out ++ [g]
def thrE (l : List S30) : List S93 := (l.map S30.f7).flatten.foldl thrStep []
theorem thr_snoc (l : List S30) (i : Nat) (h : i < l.length) : thrE (l.take (i + 1)) = (l.getD i z30).f7.foldl thrStep (thrE (l.take i)) := by
  unfold thrE
  rw [List.take_succ_eq_append_getElem h, List.map_append, List.flatten_append, List.foldl_append]
  simp [List.getD, h]
theorem fold_snoc (l : List S93) (out : List S93) (j : Nat) (h : j < l.length) : (l.take (j + 1)).foldl thrStep out = thrStep ((l.take j).foldl thrStep out) (l.getD j z93) := by
  rw [List.take_succ_eq_append_getElem h, List.foldl_append]
  simp [List.getD, h]
theorem thr_len (l : List S93) : ∀ out, (l.foldl thrStep out).length ≤ out.length + l.length := by
  induction l with
  | nil => intro out; simp
  | cons g l ih =>
    intro out
    rw [List.foldl_cons]
    have := ih (thrStep out g)
    have h2 : (thrStep out g).length ≤ out.length + 1 := by
      unfold thrStep
      split
      · omega
      · simp
    simp only [List.length_cons]
    omega
def thrSum (l : List S30) : Nat := (l.map S30.f7).flatten.length
theorem thr_le (l : List S30) (i : Nat) : (thrE (l.take i)).length ≤ thrSum (l.take i) := by
  have := thr_len ((l.take i).map S30.f7).flatten []
  simpa [thrE, thrSum] using this
theorem thrSum_snoc (l : List S30) (i : Nat) (h : i < l.length) : thrSum (l.take i) + (l.getD i z30).f7.length ≤ thrSum l := by
  have h1 : thrSum (l.take (i + 1)) = thrSum (l.take i) + (l.getD i z30).f7.length := by
    unfold thrSum
    rw [List.take_succ_eq_append_getElem h, List.map_append, List.flatten_append, List.length_append]
    simp [List.getD, h]
  have h2 : thrSum (l.take (i + 1)) ≤ thrSum l := by
    have h3 : l = l.take (i + 1) ++ l.drop (i + 1) := (List.take_append_drop _ _).symm
    unfold thrSum
    conv => rhs; rw [h3, List.map_append, List.flatten_append, List.length_append]
    omega
  omega
set_option maxHeartbeats 4000000 in
theorem thr_any (P : S27) (cs : List Value) (w : World) (hP : k27.K w P cs) (hl : thrSum P.f9 ≤ 1000000) :
    Calls Tryd.prog 37 #[.agg cs.toArray] w fun e w' => ∃ A c, e = .returned (.slice A (thrE P.f9).length c) ∧ Below w.heap.size w w' := by
  obtain ⟨B2, d2, B3, d3, B4, d4, B6, d6, B7, d7, B8, d8, B9, d9, rfl, _, _, _, _, _, _, _, _, _, _, _, _, l9, g9⟩ := k27_open hP
  have G9 := Aside0.mk g9
  have hmax := g9.2.1
  clear hP g9
  go_enter Tryd.func37, Tryd.ntmps37
  go_wp2_with fail
  obtain ⟨w1, hw1⟩ : ∃ w1, w1 = w.alloc (.cells #[.string P.f0, .int .i64 P.f1, .slice B2 P.f2.length d2, .slice B3 P.f3.length d3, .slice B4 P.f4.length d4, .int .i64 P.f5, .slice B6 P.f6.length d6, .slice B7 P.f7.length d7, .slice B8 P.f8.length d8, .slice B9 P.f9.length d9] 27) := ⟨_, rfl⟩
  rw [← hw1]
  have HB1 : Aside0 (Below w.heap.size w w1) := ⟨by rw [hw1]; exact (Below.refl _ _).alloc (Nat.le_refl _) _⟩
  clear hw1
  generalize hPl : P.f9 = l at hl l9 G9 hmax
  go_loopw [3, 11] (fun v3 v11 W => ∃ i : Nat, i ≤ l.length ∧ v11 = .int .i64 i ∧ Aside0 (k93.R 93 W w1.heap.size (fun _ => True) v3 (thrE (l.take i))) ∧ Aside0 (Below w1.heap.size w1 W)) (fun _ v11 _ => l.length - (intOf v11).toNat)
  case atStart => exact ⟨0, Nat.zero_le _, rfl, ⟨Kd.R_nil _ _ _ _ _⟩, ⟨Below.refl _ _⟩⟩
  case round =>
    obtain ⟨i, hi, rfl, HR, HB⟩ := hrel
    by_cases hlt : i < l.length
    · obtain ⟨ad, cs, rfl, hK, hn, hc⟩ := at_rule (Kd.C_below G9.out HB1.out) i hlt
      have hsn := thr_snoc l i hlt
      have hss := thrSum_snoc l i hlt
      have hle := thr_le l i
      obtain ⟨A6, c6, A7, c7, A8, c8, A9, c9, A12, c12, A14, c14, A15, c15, A16, c16, rfl, _, _, l7, g7, _⟩ := k30_open hK
      have HX := Aside0.mk hc
      have G7 := Aside0.mk g7
      clear hK hc g7
      generalize l.getD i z30 = R at *
      generalize thrE (l.take i) = out0 at *
      generalize thrSum (l.take i) = s0 at *
      generalize thrSum l = s1 at *
      have H1 := Aside0.mk hsn
      clear hsn
      go_wp2_with ((with_reducible refine gate_dst (N := 14) rfl ?_); refine Kd.event_run rfl (load_run 30 (.tmp 13) rfl (ad.add (i * 18)) (by go_simp) [.string R.f0, .int .i64 R.f1, .int .i64 R.f2, .int .i64 R.f3, .int .i64 R.f4, .int .i64 R.f5, .slice A6 R.f6.length c6, .slice A7 R.f7.length c7, .slice A8 R.f8.length c8, .slice A9 R.f9.length c9, .int .i64 R.f10, .int .i64 R.f11, .slice A12 R.f12.length c12, .int .i64 R.f13, .slice A14 R.f14.length c14, .slice A15 R.f15.length c15, .slice A16 R.f16.length c16, .int .i64 R.f17] (fun w => Tryd.sizeOf30 w) Tryd.isAgg30 (fun j v hv => (HB.out.cell (World.block_lt_of_cell? _ _ (HX.out j v hv))).trans (HX.out j v hv))) ?_; refine Halt.go ?_)
      unfold Halt
      refine new_event rfl rfl #[.string ByteArray.empty, .int .i64 0, .int .i64 0, .int .i64 0, .int .i64 0, .int .i64 0, .slice none 0 0, .slice none 0 0, .slice none 0 0, .slice none 0 0, .int .i64 0, .int .i64 0, .slice none 0 0, .int .i64 0, .slice none 0 0, .slice none 0 0, .slice none 0 0, .int .i64 0] #[.string R.f0, .int .i64 R.f1, .int .i64 R.f2, .int .i64 R.f3, .int .i64 R.f4, .int .i64 R.f5, .slice A6 R.f6.length c6, .slice A7 R.f7.length c7, .slice A8 R.f8.length c8, .slice A9 R.f9.length c9, .int .i64 R.f10, .int .i64 R.f11, .slice A12 R.f12.length c12, .int .i64 R.f13, .slice A14 R.f14.length c14, .slice A15 R.f15.length c15, .slice A16 R.f16.length c16, .int .i64 R.f17] 30 ?k1 rfl rfl (.tmp 5) (.tmp 14) rfl ?k2 ?k3 ?k4 ?k5 ?k6 ?_
      case k1 => go_simp; rfl
      case k2 => go_simp
      case k3 => go_simp
      case k4 => kernel_rfl
      case k5 => rfl
      case k6 => simp [Value.oneCell']
      intro g5 hg5 w2 hb5 hbw
      have HB2 := Aside0.mk (HB.out.trans (hbw.mono HB.out.size))
      have HR2 := Aside0.mk (Kd.R_below HR.out hbw)
      have x7 : w2.cell? ⟨g5, 7, none⟩ = some (.slice A7 R.f7.length c7) := (blk_cell hb5 7).trans rfl
      clear hbw HB HR hb5 hg5 HX
      go_wp2_with fail
      go_loopw [3, 18] (fun v3 v18 W => ∃ j : Nat, j ≤ R.f7.length ∧ v18 = .int .i64 j ∧ Aside0 (k93.R 93 W w1.heap.size (fun _ => True) v3 ((R.f7.take j).foldl thrStep out0)) ∧ Aside0 (Below w1.heap.size w1 W)) (fun _ v18 _ => R.f7.length - (intOf v18).toNat)
      case atStart => exact ⟨0, Nat.zero_le _, rfl, HR2, HB2⟩
      case round =>
        obtain ⟨j, hj, rfl, HR3, HB3⟩ := hrel
        clear HR2 HB2
        have hm7 := G7.out.2.1
        by_cases hlj : j < R.f7.length
        · obtain ⟨ae, rfl, x0, x1, x2, x3, x4, x5⟩ := at_T93 (Kd.C_below G7.out HB3.out) (j : Int) (by omega) (by omega)
          simp only [rd_T93, Int.toNat_natCast] at x0 x1 x2 x3 x4 x5
          have hfs := fold_snoc R.f7 out0 j hlj
          have hln := thr_len (R.f7.take j) out0
          rw [List.length_take] at hln
          generalize (R.f7.take j).foldl thrStep out0 = o0 at *
          generalize R.f7.getD j z93 = g at x0 x1 x2 x3 x4 x5 hfs
          rw [show thrStep o0 g = if o0.any (eqT g) = true then o0 else o0 ++ [g] from rfl] at hfs
          have H2 := Aside0.mk hfs
          clear hfs
          obtain ⟨Ao, co, rfl, hoc, hoC⟩ := Kd.R_reads HR3.out
          have HOC := Aside0.mk hoC
          clear hoC
          go_wp2_with fail
          obtain ⟨w3, hw3⟩ : ∃ w3, w3 = wr.alloc (.cells #[.int .i64 g.f0, .int .i64 g.f1, .int .i64 g.f2.f0, .int .i64 g.f2.f1, .int .i64 g.f2.f2, .int .i64 g.f2.f3] 93) := ⟨_, rfl⟩
          rw [← hw3]
          have BG : Aside0 (w3.heap[wr.heap.size]? = some (.cells #[.int .i64 g.f0, .int .i64 g.f1, .int .i64 g.f2.f0, .int .i64 g.f2.f1, .int .i64 g.f2.f2, .int .i64 g.f2.f3] 93 (0, 0))) := ⟨by rw [hw3]; exact heap_alloc_new _ _⟩
          have hb3 : Below wr.heap.size wr w3 := by rw [hw3]; exact (Below.refl _ _).alloc (Nat.le_refl _) _
          have HB3n := Aside0.mk (HB3.out.trans (hb3.mono HB3.out.size))
          have HR3n := Aside0.mk (Kd.R_below HR3.out hb3)
          have HOCn := Aside0.mk (Kd.C_below HOC.out hb3)
          clear hw3 hb3 x0 x1 x2 x3 x4 x5 HR3 HOC HB3
          refine (hasT_calls Ao co o0 g w3 HOCn.out).mono ?_
          rintro e w4 ⟨rfl, hB⟩
          have BG4 := Aside0.mk (blk_below BG.out hB)
          have HB4 := Aside0.mk (HB3n.out.trans (hB.mono HB3n.out.size))
          have HR4 := Aside0.mk (Kd.R_below HR3n.out hB)
          clear hB BG HB3n HR3n HOCn
          cases ha : o0.any (eqT g)
          · have y0 : w4.cell? ⟨wr.heap.size, 0, none⟩ = some (.int .i64 g.f0) := (blk_cell BG4.out 0).trans rfl
            have y1 : w4.cell? ⟨wr.heap.size, 1, none⟩ = some (.int .i64 g.f1) := (blk_cell BG4.out 1).trans rfl
            have y2 : w4.cell? ⟨wr.heap.size, 2, none⟩ = some (.int .i64 g.f2.f0) := (blk_cell BG4.out 2).trans rfl
            have y3 : w4.cell? ⟨wr.heap.size, 3, none⟩ = some (.int .i64 g.f2.f1) := (blk_cell BG4.out 3).trans rfl
            have y4 : w4.cell? ⟨wr.heap.size, 4, none⟩ = some (.int .i64 g.f2.f2) := (blk_cell BG4.out 4).trans rfl
            have y5 : w4.cell? ⟨wr.heap.size, 5, none⟩ = some (.int .i64 g.f2.f3) := (blk_cell BG4.out 5).trans rfl
            go_wp2_with ((with_reducible refine gate_builtin (b := .append) (xs := #[.tmp 26, .tmp 28]) rfl ?_); at_builtin; refine Kd.R_append k93 (w0 := w1) w1.heap.size rfl (.tmp 26) (.tmp 28) 28 93 (.agg #[.int .i64 0, .int .i64 0, .int .i64 0, .int .i64 0, .int .i64 0, .int .i64 0]) 48 rfl Tryd.underlying28 info93 rfl (by decide) (by decide) _ o0 g [.int .i64 g.f0, .int .i64 g.f1, .int .i64 g.f2.f0, .int .i64 g.f2.f1, .int .i64 g.f2.f2, .int .i64 g.f2.f3] (fun _ => True) (fun _ => False) rfl rfl (k93_mkM _ _ _ _) (fun _ h => h.elim) (fun _ _ => trivial) HR4.out HB4.out HB4.out.size (by omega) ?_; intro v1 w5 hR hB hg_ hat_)
            have HR5 := Aside0.mk hR
            have HB5 := Aside0.mk hB
            clear hR hB hg_ hat_ y0 y1 y2 y3 y4 y5
            rw [ha, if_neg (by decide)] at H2
            rw [← H2.out] at HR5
            go_wp2_with fail
            go_roundw
            case rel => exact ⟨j + 1, by omega, by go_num, HR5, HB5⟩
            case measure => simp [intOf]; omega
          · rw [ha, if_pos rfl] at H2
            go_wp2_with fail
            go_roundw
            case rel => exact ⟨j + 1, by omega, by go_num, ⟨by rw [H2.out]; exact HR4.out⟩, HB4⟩
            case measure => simp [intOf]; omega
        · have hj2 : j = R.f7.length := by omega
          subst hj2
          rw [List.take_length] at HR3
          rw [← H1.out] at HR3
          go_wp2_with fail
          go_roundw
          case rel => exact ⟨i + 1, by omega, by go_num, HR3, HB3⟩
          case measure => simp [intOf]; omega
    · have hi2 : i = l.length := by omega
      subst hi2
      rw [List.take_length] at HR
      obtain ⟨Ao, co, rfl, hoc, hoC⟩ := Kd.R_reads HR.out
      go_wp2_with fail
      go_ret
      exact ⟨Ao, co, by rw [hPl]; rfl, HB1.out.trans (HB.out.mono HB1.out.size)⟩
end Go.Proofs.YtoggkfapdomhgaaDoor.Pr
