/- Contract of Apply; conditions: each theorem's own premises. -/
import Derived.Test.YtoggkfapdomhgaaDoorHt
import Derived.Test.YtoggkfapdomhgaaDoorFs
import Derived.Test.YtoggkfapdomhgaaDoorHp
namespace Go.Proofs.YtoggkfapdomhgaaDoor.Pr
open Go.RowKit Go.Proofs.YtoggkfapdomhgaaDoorW.PrintWords Go.Proofs.YtoggkfapdomhgaaDoorW.PrintLast Go.Proofs.YtoggkfapdomhgaaDoorW.PrintMore
set_option linter.unusedVariables false
set_option linter.unusedSimpArgs false
set_option maxRecDepth 100000
theorem OwnP_below {w w' : World} {base : Nat} {P : S27} {cs : List Value} (h : OwnP w base P cs) (hb : Below w.heap.size w w') : OwnP w' base P cs := by
  obtain ⟨v2, v3, v4, v6, v7, v8, v9, lo2, hi2, lo3, hi3, lo4, hi4, lo6, hi6, lo7, hi7, lo8, hi8, lo9, rfl, m2, m3, m4, m6, m7, m8, m9, r⟩ := h
  exact ⟨v2, v3, v4, v6, v7, v8, v9, lo2, hi2, lo3, hi3, lo4, hi4, lo6, hi6, lo7, hi7, lo8, hi8, lo9, rfl, Kd.R_below m2 hb, Kd.R_below m3 hb, Kd.R_below m4 hb, Kd.R_below m6 hb, Kd.R_below m7 hb, Kd.R_below m8 hb, Kd.R_below m9 hb, r⟩
theorem OwnP_open {w : World} {base : Nat} {P : S27} {cs : List Value} (h : OwnP w base P cs) : ∃ V2 v2 V3 v3 V4 v4 V6 v6 V7 v7 V8 v8 V9 v9, cs = [.string P.f0, .int .i64 P.f1, .slice V2 P.f2.length v2, .slice V3 P.f3.length v3, .slice V4 P.f4.length v4, .int .i64 P.f5, .slice V6 P.f6.length v6, .slice V7 P.f7.length v7, .slice V8 P.f8.length v8, .slice V9 P.f9.length v9] := by
  obtain ⟨v2, v3, v4, v6, v7, v8, v9, lo2, hi2, lo3, hi3, lo4, hi4, lo6, hi6, lo7, hi7, lo8, hi8, lo9, rfl, m2, m3, m4, m6, m7, m8, m9, r⟩ := h
  obtain ⟨V2, c2, rfl⟩ := Kd.R_slice m2
  obtain ⟨V3, c3, rfl⟩ := Kd.R_slice m3
  obtain ⟨V4, c4, rfl⟩ := Kd.R_slice m4
  obtain ⟨V6, c6, rfl⟩ := Kd.R_slice m6
  obtain ⟨V7, c7, rfl⟩ := Kd.R_slice m7
  obtain ⟨V8, c8, rfl⟩ := Kd.R_slice m8
  obtain ⟨V9, c9, rfl⟩ := Kd.R_slice m9
  exact ⟨V2, c2, V3, c3, V4, c4, V6, c6, V7, c7, V8, c8, V9, c9, rfl⟩
theorem blk_list {W : World} {g t : Nat} {cs : List Value} (h : W.heap[g]? = some (.cells cs.toArray t (0, 0))) (j : Nat) (v : Value) (hj : cs[j]? = some v) : W.cell? ((⟨g, 0, none⟩ : Addr).add j) = some v := by
  rw [Addr.add_lit, Nat.zero_add, blk_cell h, List.getElem?_toArray]
  exact hj
/-- What Apply leaves. -/
def Applied (V : S27 → Int) (P : S27) (E : S32) (w : World) (e : Ending) (w' : World) : Prop := ∃ (k : Int) (qs : List Value), e = .returned (.tuple #[.agg qs.toArray, .int .i64 k]) ∧ Below w.heap.size w w' ∧
  match appl V P E with
  | some Q => k = 0 ∧ k27.K w' Q qs
  | none => k ≠ 0 ∧ qs = [.string (⟨#[]⟩ : ByteArray), .int .i64 0, .slice none 0 0, .slice none 0 0, .slice none 0 0, .int .i64 0, .slice none 0 0, .slice none 0 0, .slice none 0 0, .slice none 0 0]
set_option maxHeartbeats 8000000 in
theorem apply_any (P : S27) (E : S32) (cs es : List Value) (w : World) (n : Nat) (hG : Glob w) (hP : k27.K w P cs) (hE : k32.K w E es) (hMid : Mid n P) (hn : n ≤ 8) (hl : ShortR E.f2) :
    Calls Tryd.prog 8 #[.agg cs.toArray, .agg es.toArray] w (Applied validE P E w) := by
  have HM := Aside0.mk hMid
  have HL := Aside0.mk hl
  have HP := Aside0.mk hP
  have HE := Aside0.mk hE
  have HG := Aside0.mk hG
  obtain ⟨B2, d2, B3, d3, B4, d4, B6, d6, B7, d7, B8, d8, B9, d9, rfl, _⟩ := k27_open hP
  obtain ⟨A6, c6, A7, c7, A8, c8, A9, c9, A12, c12, A14, c14, A15, c15, A16, c16, rfl, _⟩ := k32_open hE
  clear hMid hl hP hE hG
  go_enter Tryd.func8, Tryd.ntmps8
  go_upto_region 1 with (fail)
  obtain ⟨g, hg⟩ : ∃ g, g = w.heap.size := ⟨_, rfl⟩
  obtain ⟨g2, hg2⟩ : ∃ g2, g2 = w.heap.size + 1 := ⟨_, rfl⟩
  obtain ⟨g3, hg3⟩ : ∃ g3, g3 = w.heap.size + 1 + 1 := ⟨_, rfl⟩
  obtain ⟨w1, hw1⟩ : ∃ w1, w1 = ((w.alloc (.cells #[.string P.f0, .int .i64 P.f1, .slice B2 P.f2.length d2, .slice B3 P.f3.length d3, .slice B4 P.f4.length d4, .int .i64 P.f5, .slice B6 P.f6.length d6, .slice B7 P.f7.length d7, .slice B8 P.f8.length d8, .slice B9 P.f9.length d9] 27)).alloc (.cells #[.int .i64 E.f0, .int .i64 E.f1, .string E.f2.f0, .int .i64 E.f2.f1, .int .i64 E.f2.f2, .int .i64 E.f2.f3, .int .i64 E.f2.f4, .int .i64 E.f2.f5, .slice A6 E.f2.f6.length c6, .slice A7 E.f2.f7.length c7, .slice A8 E.f2.f8.length c8, .slice A9 E.f2.f9.length c9, .int .i64 E.f2.f10, .int .i64 E.f2.f11, .slice A12 E.f2.f12.length c12, .int .i64 E.f2.f13, .slice A14 E.f2.f14.length c14, .slice A15 E.f2.f15.length c15, .slice A16 E.f2.f16.length c16, .int .i64 E.f2.f17, .int .i64 E.f3, .string E.f4] 32)).alloc (.cells #[.string (⟨#[]⟩ : ByteArray), .int .i64 0, .slice none 0 0, .slice none 0 0, .slice none 0 0, .int .i64 0, .slice none 0 0, .slice none 0 0, .slice none 0 0, .slice none 0 0] 27) := ⟨_, rfl⟩
  have s1 : (w.alloc (.cells #[.string P.f0, .int .i64 P.f1, .slice B2 P.f2.length d2, .slice B3 P.f3.length d3, .slice B4 P.f4.length d4, .int .i64 P.f5, .slice B6 P.f6.length d6, .slice B7 P.f7.length d7, .slice B8 P.f8.length d8, .slice B9 P.f9.length d9] 27)).heap.size = g2 := by rw [hg2]; simp
  have s2 : ((w.alloc (.cells #[.string P.f0, .int .i64 P.f1, .slice B2 P.f2.length d2, .slice B3 P.f3.length d3, .slice B4 P.f4.length d4, .int .i64 P.f5, .slice B6 P.f6.length d6, .slice B7 P.f7.length d7, .slice B8 P.f8.length d8, .slice B9 P.f9.length d9] 27)).alloc (.cells #[.int .i64 E.f0, .int .i64 E.f1, .string E.f2.f0, .int .i64 E.f2.f1, .int .i64 E.f2.f2, .int .i64 E.f2.f3, .int .i64 E.f2.f4, .int .i64 E.f2.f5, .slice A6 E.f2.f6.length c6, .slice A7 E.f2.f7.length c7, .slice A8 E.f2.f8.length c8, .slice A9 E.f2.f9.length c9, .int .i64 E.f2.f10, .int .i64 E.f2.f11, .slice A12 E.f2.f12.length c12, .int .i64 E.f2.f13, .slice A14 E.f2.f14.length c14, .slice A15 E.f2.f15.length c15, .slice A16 E.f2.f16.length c16, .int .i64 E.f2.f17, .int .i64 E.f3, .string E.f4] 32)).heap.size = g3 := by rw [hg3]; simp
  rw [← hw1]
  have BP : Aside0 (w1.heap[g]? = some (.cells #[.string P.f0, .int .i64 P.f1, .slice B2 P.f2.length d2, .slice B3 P.f3.length d3, .slice B4 P.f4.length d4, .int .i64 P.f5, .slice B6 P.f6.length d6, .slice B7 P.f7.length d7, .slice B8 P.f8.length d8, .slice B9 P.f9.length d9] 27 (0, 0))) := ⟨by rw [hw1, hg]; exact blk_alloc (blk_alloc (heap_alloc_new w _) _) _⟩
  have BE : Aside0 (w1.heap[g2]? = some (.cells #[.int .i64 E.f0, .int .i64 E.f1, .string E.f2.f0, .int .i64 E.f2.f1, .int .i64 E.f2.f2, .int .i64 E.f2.f3, .int .i64 E.f2.f4, .int .i64 E.f2.f5, .slice A6 E.f2.f6.length c6, .slice A7 E.f2.f7.length c7, .slice A8 E.f2.f8.length c8, .slice A9 E.f2.f9.length c9, .int .i64 E.f2.f10, .int .i64 E.f2.f11, .slice A12 E.f2.f12.length c12, .int .i64 E.f2.f13, .slice A14 E.f2.f14.length c14, .slice A15 E.f2.f15.length c15, .slice A16 E.f2.f16.length c16, .int .i64 E.f2.f17, .int .i64 E.f3, .string E.f4] 32 (0, 0))) := ⟨by rw [hw1, ← s1]; exact blk_alloc (heap_alloc_new _ _) _⟩
  have BR : Aside0 (w1.heap[g3]? = some (.cells #[.string (⟨#[]⟩ : ByteArray), .int .i64 0, .slice none 0 0, .slice none 0 0, .slice none 0 0, .int .i64 0, .slice none 0 0, .slice none 0 0, .slice none 0 0, .slice none 0 0] 27 (0, 0))) := ⟨by rw [hw1, ← s2]; exact heap_alloc_new _ _⟩
  have HB : Aside0 (Below w.heap.size w w1) := ⟨by rw [hw1]; exact (((Below.refl _ _).alloc (Nat.le_refl _) _).alloc (by simp) _).alloc (by rw [s2]; omega) _⟩
  simp only [← hg3]
  simp only [← hg2]
  simp only [← hg]
  have n1 : w.heap.size ≤ g3 := by omega
  have n2 : g3 ≠ g := by omega
  have n3 : g3 ≠ g2 := by omega
  clear hw1 s1 s2 hg hg2 hg3
  go_wp2_with ((with_reducible refine gate_dst (N := 10) rfl ?_); refine Kd.event_run rfl (load_run 27 (.tmp 2) rfl ⟨g, 0, none⟩ (by go_simp) [.string P.f0, .int .i64 P.f1, .slice B2 P.f2.length d2, .slice B3 P.f3.length d3, .slice B4 P.f4.length d4, .int .i64 P.f5, .slice B6 P.f6.length d6, .slice B7 P.f7.length d7, .slice B8 P.f8.length d8, .slice B9 P.f9.length d9] (fun w => Tryd.sizeOf27 w) Tryd.isAgg27 (blk_list BP.out)) ?_)
  refine (valid_any P _ w1 (Glob_below HG.out HB.out) (k27.K_below HB.out HP.out) (mid_small HM.out (by omega))).mono ?_
  rintro e w2 ⟨rfl, hV⟩
  have n_BP := Aside0.mk (blk_below BP.out hV)
  have n_BE := Aside0.mk (blk_below BE.out hV)
  have n_BR := Aside0.mk (blk_below BR.out hV)
  have n_HB := Aside0.mk (HB.out.trans (Below.mono hV HB.out.size))
  clear BP BE BR HB
  have BP := n_BP
  have BE := n_BE
  have BR := n_BR
  have HB := n_HB
  clear n_BP n_BE n_BR n_HB
  clear hV
  obtain ⟨vp, hvp⟩ : ∃ vp, vp = validE P := ⟨_, rfl⟩
  rw [← hvp]
  have HVP := Aside0.mk hvp
  clear hvp
  by_cases hv : vp = 0
  rotate_left
  · have k0 : (vp == 0) = false := beq_eq_false_iff_ne.mpr hv
    go_wp2_with (refine store_all 27 (.tmp 4) (.tmp 14) rfl rfl rfl g3 #[.string (⟨#[]⟩ : ByteArray), .int .i64 0, .slice none 0 0, .slice none 0 0, .slice none 0 0, .int .i64 0, .slice none 0 0, .slice none 0 0, .slice none 0 0, .slice none 0 0] #[.string (⟨#[]⟩ : ByteArray), .int .i64 0, .slice none 0 0, .slice none 0 0, .slice none 0 0, .int .i64 0, .slice none 0 0, .slice none 0 0, .slice none 0 0, .slice none 0 0] (by go_simp) (by first | (go_simp; done) | (go_simp; rfl)) BR.out (by kernel_rfl) rfl (by simp [Value.oneCell']) ?_; intro w9 hb9 hm9 hB9; refine Halt.go ?_)
    unfold Halt
    have hBn := hB9 _ _ HB.out n1
    go_wp2_with fail
    refine bodyPost_ret (results_ct rfl _ _ g3 27 #[.string (⟨#[]⟩ : ByteArray), .int .i64 0, .slice none 0 0, .slice none 0 0, .slice none 0 0, .int .i64 0, .slice none 0 0, .slice none 0 0, .slice none 0 0, .slice none 0 0] (0, 0) _ rfl hb9 Tryd.underlying27 rfl (by kernel_rfl)) rfl ?_
    have hap : appl validE P E = none := by unfold appl; rw [if_neg (by rw [← HVP.out]; exact hv)]
    exact ⟨vp, [.string (⟨#[]⟩ : ByteArray), .int .i64 0, .slice none 0 0, .slice none 0 0, .slice none 0 0, .int .i64 0, .slice none 0 0, .slice none 0 0, .slice none 0 0, .slice none 0 0], rfl, hBn, by rw [hap]; exact ⟨hv, rfl⟩⟩
  · subst hv
    obtain ⟨hs7, hne7⟩ := validE_sorted HVP.out.symm
    have HS7 := Aside0.mk hs7
    have HN7 := Aside0.mk hne7
    clear hs7 hne7
    go_wp2_with ((with_reducible refine gate_dst (N := 16) rfl ?_); refine Kd.event_run rfl (load_run 27 (.tmp 2) rfl ⟨g, 0, none⟩ (by go_simp) [.string P.f0, .int .i64 P.f1, .slice B2 P.f2.length d2, .slice B3 P.f3.length d3, .slice B4 P.f4.length d4, .int .i64 P.f5, .slice B6 P.f6.length d6, .slice B7 P.f7.length d7, .slice B8 P.f8.length d8, .slice B9 P.f9.length d9] (fun w => Tryd.sizeOf27 w) Tryd.isAgg27 (blk_list BP.out)) ?_)
    refine (copyOf_any P _ w2 (k27.K_below HB.out HP.out) (mid_tame HM.out (by omega))).mono ?_
    rintro e w3 ⟨cs3, rfl, hO, hC⟩
    obtain ⟨base, hbase⟩ : ∃ b, b = w2.heap.size := ⟨_, rfl⟩
    have HW2 := Aside0.mk HB.out
    have HBC : Aside0 (Below base w2 w3) := ⟨by rw [hbase]; exact hC⟩
    have b1 : g < base := by rw [hbase]; exact blk_lt BP.out
    have b2 : g2 < base := by rw [hbase]; exact blk_lt BE.out
    have b3 : g3 < base := by rw [hbase]; exact blk_lt BR.out
    have b0 : w.heap.size ≤ base := by rw [hbase]; exact HB.out.size
    have HGW := Aside0.mk (Glob_below HG.out HB.out)
    have n_BP := Aside0.mk (blk_below BP.out hC)
    have n_BE := Aside0.mk (blk_below BE.out hC)
    have n_BR := Aside0.mk (blk_below BR.out hC)
    have n_HB := Aside0.mk (HB.out.trans (Below.mono hC HB.out.size))
    clear BP BE BR HB
    have BP := n_BP
    have BE := n_BE
    have BR := n_BR
    have HB := n_HB
    clear n_BP n_BE n_BR n_HB
    rw [← hbase] at hO
    have HO := Aside0.mk hO
    obtain ⟨V2, v2, V3, v3, V4, v4, V6, v6, V7, v7, V8, v8, V9, v9, rfl⟩ := OwnP_open hO
    clear hO hC
    go_wp2_with (refine new_event rfl rfl #[.string (⟨#[]⟩ : ByteArray), .int .i64 0, .slice none 0 0, .slice none 0 0, .slice none 0 0, .int .i64 0, .slice none 0 0, .slice none 0 0, .slice none 0 0, .slice none 0 0] #[.string P.f0, .int .i64 P.f1, .slice V2 P.f2.length v2, .slice V3 P.f3.length v3, .slice V4 P.f4.length v4, .int .i64 P.f5, .slice V6 P.f6.length v6, .slice V7 P.f7.length v7, .slice V8 P.f8.length v8, .slice V9 P.f9.length v9] 27 (by first | (go_simp; done) | (go_simp; rfl)) rfl rfl (.tmp 7) (.tmp 17) rfl (by go_simp) (by go_simp) (by kernel_rfl) rfl (by simp [Value.oneCell']) ?_; intro g7 hg7 w4 hb7 hbw; refine Halt.go ?_)
    unfold Halt
    have hb7l : base ≤ g7 := by rw [hg7]; exact Nat.le_trans (by rw [hbase]; exact Nat.le_refl _) HBC.out.size
    have hb4l : base ≤ w4.heap.size := by have := blk_lt hb7; omega
    clear hg7
    have n_BP := Aside0.mk (blk_below BP.out hbw)
    have n_BE := Aside0.mk (blk_below BE.out hbw)
    have n_BR := Aside0.mk (blk_below BR.out hbw)
    have n_HB := Aside0.mk (HB.out.trans (Below.mono hbw HB.out.size))
    clear BP BE BR HB
    have BP := n_BP
    have BE := n_BE
    have BR := n_BR
    have HB := n_HB
    clear n_BP n_BE n_BR n_HB
    have HO4 := Aside0.mk (OwnP_below HO.out hbw)
    have HBC4 := Aside0.mk (HBC.out.trans (hbw.mono (by rw [hbase]; exact HBC.out.size)))
    have BN := Aside0.mk hb7
    clear HO HBC hbw hb7
    go_wp2_with ((with_reducible refine gate_dst (N := 18) rfl ?_); refine Kd.event_run rfl (load_run 32 (.tmp 3) rfl ⟨g2, 0, none⟩ (by go_simp) [.int .i64 E.f0, .int .i64 E.f1, .string E.f2.f0, .int .i64 E.f2.f1, .int .i64 E.f2.f2, .int .i64 E.f2.f3, .int .i64 E.f2.f4, .int .i64 E.f2.f5, .slice A6 E.f2.f6.length c6, .slice A7 E.f2.f7.length c7, .slice A8 E.f2.f8.length c8, .slice A9 E.f2.f9.length c9, .int .i64 E.f2.f10, .int .i64 E.f2.f11, .slice A12 E.f2.f12.length c12, .int .i64 E.f2.f13, .slice A14 E.f2.f14.length c14, .slice A15 E.f2.f15.length c15, .slice A16 E.f2.f16.length c16, .int .i64 E.f2.f17, .int .i64 E.f3, .string E.f4] (fun w => Tryd.sizeOf32 w) Tryd.isAgg32 (blk_list BE.out)) ?_)
    refine (change_any P E g7 base _ _ w4 BN.out HO4.out (k32.K_below HB.out HE.out) hb7l hb4l HS7.out HN7.out (mid_tame HM.out (by omega)) (short_sum HL.out)).mono ?_
    rintro e w5 ⟨hc, hBl⟩
    have n_BP := Aside0.mk ((hBl.block g b1).trans BP.out)
    have n_BE := Aside0.mk ((hBl.block g2 b2).trans BE.out)
    have n_BR := Aside0.mk ((hBl.block g3 b3).trans BR.out)
    have n_HB := Aside0.mk (HB.out.trans (hBl.mono b0))
    have HBC5 := Aside0.mk (HBC4.out.trans hBl)
    clear BP BE BR HB BN HO4 HBC4 hBl
    have BP := n_BP
    have BE := n_BE
    have BR := n_BR
    have HB := n_HB
    clear n_BP n_BE n_BR n_HB
    unfold ChangeTo at hc
    cases hq : chg P E with
    | none =>
      rw [hq] at hc
      obtain ⟨k, hk, rfl⟩ := hc
      have HQ := Aside0.mk hq
      clear hq
      have k0 : (k == 0) = false := beq_eq_false_iff_ne.mpr hk
      go_wp2_with (refine store_all 27 (.tmp 4) (.tmp 22) rfl rfl rfl g3 #[.string (⟨#[]⟩ : ByteArray), .int .i64 0, .slice none 0 0, .slice none 0 0, .slice none 0 0, .int .i64 0, .slice none 0 0, .slice none 0 0, .slice none 0 0, .slice none 0 0] #[.string (⟨#[]⟩ : ByteArray), .int .i64 0, .slice none 0 0, .slice none 0 0, .slice none 0 0, .int .i64 0, .slice none 0 0, .slice none 0 0, .slice none 0 0, .slice none 0 0] (by go_simp) (by first | (go_simp; done) | (go_simp; rfl)) BR.out (by kernel_rfl) rfl (by simp [Value.oneCell']) ?_; intro w9 hb9 hm9 hB9; refine Halt.go ?_)
      unfold Halt
      have hBn := hB9 _ _ HB.out n1
      go_wp2_with fail
      refine bodyPost_ret (results_ct rfl _ _ g3 27 #[.string (⟨#[]⟩ : ByteArray), .int .i64 0, .slice none 0 0, .slice none 0 0, .slice none 0 0, .int .i64 0, .slice none 0 0, .slice none 0 0, .slice none 0 0, .slice none 0 0] (0, 0) _ rfl hb9 Tryd.underlying27 rfl (by kernel_rfl)) rfl ?_
      have hap : appl validE P E = none := by unfold appl; rw [if_pos HVP.out.symm, HQ.out]; rfl
      exact ⟨k, [.string (⟨#[]⟩ : ByteArray), .int .i64 0, .slice none 0 0, .slice none 0 0, .slice none 0 0, .int .i64 0, .slice none 0 0, .slice none 0 0, .slice none 0 0, .slice none 0 0], rfl, hBn, by rw [hap]; exact ⟨hk, rfl⟩⟩
    | some Q =>
      rw [hq] at hc
      obtain ⟨rfl, cq, hbq, hkq⟩ := hc
      have HQ := Aside0.mk hq
      have HMQ := Aside0.mk (mid_chg HM.out HL.out hq)
      have HFQ := Aside0.mk hkq
      replace hkq := hkq w5 (fun _ _ _ _ _ => rfl)
      have HKQ := Aside0.mk hkq
      obtain ⟨ql, hql⟩ : ∃ ql, ql = cq.toList := ⟨_, rfl⟩
      rw [← hql] at HKQ HFQ hkq
      have hcq : cq = ql.toArray := by rw [hql]
      subst hcq
      obtain ⟨U2, u2, U3, u3, U4, u4, U6, u6, U7, u7, U8, u8, U9, u9, rfl, _⟩ := k27_open hkq
      have BN := Aside0.mk hbq
      clear hq hbq hkq hql
      have HG5 : Aside0 (Glob w5) := ⟨Glob_below HGW.out (by rw [← hbase]; exact HBC5.out)⟩
      go_wp2_with ((with_reducible refine gate_dst (N := 24) rfl ?_); refine Kd.event_run rfl (load_run 27 (.tmp 7) rfl ⟨g7, 0, none⟩ (by go_simp) [.string Q.f0, .int .i64 Q.f1, .slice U2 Q.f2.length u2, .slice U3 Q.f3.length u3, .slice U4 Q.f4.length u4, .int .i64 Q.f5, .slice U6 Q.f6.length u6, .slice U7 Q.f7.length u7, .slice U8 Q.f8.length u8, .slice U9 Q.f9.length u9] (fun w => Tryd.sizeOf27 w) Tryd.isAgg27 (blk_list BN.out)) ?_)
      refine (valid_any Q _ w5 HG5.out HKQ.out (mid_small HMQ.out (by omega))).mono ?_
      rintro e w6 ⟨rfl, hV⟩
      have HV6 := Aside0.mk hV
      have n_BP := Aside0.mk (blk_below BP.out hV)
      have n_BE := Aside0.mk (blk_below BE.out hV)
      have n_BR := Aside0.mk (blk_below BR.out hV)
      have n_BN := Aside0.mk (blk_below BN.out hV)
      have n_HB := Aside0.mk (HB.out.trans (Below.mono hV HB.out.size))
      clear BP BE BR BN HB
      have BP := n_BP
      have BE := n_BE
      have BR := n_BR
      have BN := n_BN
      have HB := n_HB
      clear n_BP n_BE n_BR n_BN n_HB
      clear hV HKQ
      obtain ⟨vq, hvq⟩ : ∃ vq, vq = validE Q := ⟨_, rfl⟩
      rw [← hvq]
      have HVQ := Aside0.mk hvq
      clear hvq
      by_cases hv : vq = 0
      rotate_left
      · have k0 : (vq == 0) = false := beq_eq_false_iff_ne.mpr hv
        go_wp2_with (refine store_all 27 (.tmp 4) (.tmp 28) rfl rfl rfl g3 #[.string (⟨#[]⟩ : ByteArray), .int .i64 0, .slice none 0 0, .slice none 0 0, .slice none 0 0, .int .i64 0, .slice none 0 0, .slice none 0 0, .slice none 0 0, .slice none 0 0] #[.string (⟨#[]⟩ : ByteArray), .int .i64 0, .slice none 0 0, .slice none 0 0, .slice none 0 0, .int .i64 0, .slice none 0 0, .slice none 0 0, .slice none 0 0, .slice none 0 0] (by go_simp) (by first | (go_simp; done) | (go_simp; rfl)) BR.out (by kernel_rfl) rfl (by simp [Value.oneCell']) ?_; intro w9 hb9 hm9 hB9; refine Halt.go ?_)
        unfold Halt
        have hBn := hB9 _ _ HB.out n1
        go_wp2_with fail
        refine bodyPost_ret (results_ct rfl _ _ g3 27 #[.string (⟨#[]⟩ : ByteArray), .int .i64 0, .slice none 0 0, .slice none 0 0, .slice none 0 0, .int .i64 0, .slice none 0 0, .slice none 0 0, .slice none 0 0, .slice none 0 0] (0, 0) _ rfl hb9 Tryd.underlying27 rfl (by kernel_rfl)) rfl ?_
        have hap : appl validE P E = none := by unfold appl; rw [if_pos HVP.out.symm, HQ.out, Option.bind_some, if_neg (by rw [← HVQ.out]; exact hv)]
        exact ⟨vq, [.string (⟨#[]⟩ : ByteArray), .int .i64 0, .slice none 0 0, .slice none 0 0, .slice none 0 0, .int .i64 0, .slice none 0 0, .slice none 0 0, .slice none 0 0, .slice none 0 0], rfl, hBn, by rw [hap]; exact ⟨hv, rfl⟩⟩
      · subst hv
        go_wp2_with ((with_reducible refine gate_dst (N := 30) rfl ?_); refine copy_event rfl rfl 27 (.tmp 7) (.tmp 4) rfl rfl rfl rfl g7 g3 27 #[.string (⟨#[]⟩ : ByteArray), .int .i64 0, .slice none 0 0, .slice none 0 0, .slice none 0 0, .int .i64 0, .slice none 0 0, .slice none 0 0, .slice none 0 0, .slice none 0 0] #[.string Q.f0, .int .i64 Q.f1, .slice U2 Q.f2.length u2, .slice U3 Q.f3.length u3, .slice U4 Q.f4.length u4, .int .i64 Q.f5, .slice U6 Q.f6.length u6, .slice U7 Q.f7.length u7, .slice U8 Q.f8.length u8, .slice U9 Q.f9.length u9] (by go_simp) (by go_simp) (by go_simp) BN.out BR.out (fun w => Tryd.sizeOf27 w) Tryd.isAgg27 (by kernel_rfl) rfl (by simp [Value.oneCell']) ?_; intro w9 hb9 hm9 hB9)
        have hBn := hB9 _ _ HB.out n1
        have hK9 := HFQ.out w9 (fun k cells t hk ht => by have h6 := HV6.out.block k (blk_lt hk); have hne : k ≠ g3 := by { rintro rfl; have hb := BR.out; rw [h6, hk] at hb; injection hb with hb; injection hb with _ hb; exact ht hb }; exact (hm9 k hne).trans h6)
        go_wp2_with fail
        refine bodyPost_ret (results_ct rfl _ _ g3 27 #[.string Q.f0, .int .i64 Q.f1, .slice U2 Q.f2.length u2, .slice U3 Q.f3.length u3, .slice U4 Q.f4.length u4, .int .i64 Q.f5, .slice U6 Q.f6.length u6, .slice U7 Q.f7.length u7, .slice U8 Q.f8.length u8, .slice U9 Q.f9.length u9] (0, 0) _ rfl hb9 Tryd.underlying27 rfl (by kernel_rfl)) rfl ?_
        have hap : appl validE P E = some Q := appl_of HVP.out.symm HQ.out HVQ.out.symm
        exact ⟨0, [.string Q.f0, .int .i64 Q.f1, .slice U2 Q.f2.length u2, .slice U3 Q.f3.length u3, .slice U4 Q.f4.length u4, .int .i64 Q.f5, .slice U6 Q.f6.length u6, .slice U7 Q.f7.length u7, .slice U8 Q.f8.length u8, .slice U9 Q.f9.length u9], rfl, hBn, by rw [hap]; exact ⟨rfl, hK9⟩⟩
end Go.Proofs.YtoggkfapdomhgaaDoor.Pr
