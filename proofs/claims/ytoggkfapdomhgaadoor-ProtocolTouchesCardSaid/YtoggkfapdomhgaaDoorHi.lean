/- Contract of ruleError; conditions: each theorem's own premises. -/
import Derived.Test.YtoggkfapdomhgaaDoorHh
import Derived.Deep.WholeRow
namespace Go.Proofs.YtoggkfapdomhgaaDoor.Pr
open Go.RowKit Go.Proofs.YtoggkfapdomhgaaDoorW.PrintWords Go.Proofs.YtoggkfapdomhgaaDoorW.PrintLast Go.Proofs.YtoggkfapdomhgaaDoorW.PrintMore
set_option linter.unusedVariables false
set_option linter.unusedSimpArgs false
set_option maxRecDepth 100000
def Halt (p : Prop) : Prop := p
theorem Halt.go {p : Prop} (h : Halt p) : p := h
/-- A new variable of a struct's type, and its first value. -/
theorem new_event {P : Program} {ops : Array Oper} {rest : List Oper} {oa os : Oper} {a : Act} {Q : Exit → Act → World → Prop} {W : World} (hga : oa.guard = none) {N : Tmp} (hda : oa.dst = some N) (c c' : Array Value) (t : TypeId)
    (hra : (execOp a.eval oa).run P W = .ok (.value (.pointer (some ⟨W.heap.size, 0, none⟩))) (W.alloc (.cells c t))) (hgs : os.guard = none) (hds : os.dst = none) (x y : Operand) (hos : os.op = .store t x y)
    (hx : (a.put (some N) (.pointer (some ⟨W.heap.size, 0, none⟩))).eval x = .pointer (some ⟨W.heap.size, 0, none⟩)) (hy : (a.put (some N) (.pointer (some ⟨W.heap.size, 0, none⟩))).eval y = .agg c')
    (hi : (P.info? t).map (·.size) = some c'.size) (hc : c.size = c'.size) (h1 : c'.all (·.oneCell') = true)
    (h : ∀ g, g = W.heap.size → ∀ w1, w1.heap[g]? = some (.cells c' t (0, 0)) → Below W.heap.size W w1 → wpList P ops Q rest (a.put (some N) (.pointer (some ⟨g, 0, none⟩))) w1) :
    wpList P ops Q (oa :: os :: rest) a W := by
  refine Kd.event_run hga hra ?_
  rw [hda]
  refine wpList_plain hgs fun _ hK => ?_
  unfold Oper.wp execOp
  simp only [hos, hx, hy, Sem.run_bind, run_storeAt_new W t c c' hi hc h1, Sem.run_pure, Result.andThen_ok]
  refine hK _ _ ?_
  rw [hds]
  exact h _ rfl _ (blk_new W _) (below_alloc (Below.refl _ _) _)
theorem C_take {α : Type} {d : Kd α} {w : World} {A : Option Addr} {n : Nat} {xs : List α} (h : d.C w A n xs) (m : Nat) (hm : m ≤ n) : d.C w A m (xs.take m) := by
  obtain ⟨h1, h2, h3⟩ := h
  refine ⟨by rw [List.length_take]; omega, by omega, fun h0 => ?_⟩
  obtain ⟨ad, e, hc⟩ := h3 (by omega)
  refine ⟨ad, e, fun j p hj => hc j p ?_⟩
  rw [List.getElem?_take] at hj
  split at hj
  · exact hj
  · cases hj
theorem same_any (g : Nat) (s : ByteArray) (w : World) (hc : w.cell? ⟨g, 0, none⟩ = some (.string s)) (hg : g < w.heap.size) : Says 54 #[.pointer (some ⟨g, 0, none⟩)] w fun x b => b = (x.f0.toList == s.toList) := by
  intro W x cs hB hK
  obtain ⟨A6, c6, A7, c7, A8, c8, A9, c9, A12, c12, A14, c14, A15, c15, A16, c16, rfl, _⟩ := k30_open hK
  have h0 : W.cell? ⟨g, 0, none⟩ = some (.string s) := (hB.cell (by simpa using hg)).trans hc
  have hlt : g < W.heap.size := Nat.lt_of_lt_of_le hg hB.size
  have hne : g ≠ W.heap.size := by omega
  show Calls Tryd.prog 54 #[.agg #[.string x.f0, .int .i64 x.f1, .int .i64 x.f2, .int .i64 x.f3, .int .i64 x.f4, .int .i64 x.f5, .slice A6 x.f6.length c6, .slice A7 x.f7.length c7, .slice A8 x.f8.length c8, .slice A9 x.f9.length c9, .int .i64 x.f10, .int .i64 x.f11, .slice A12 x.f12.length c12, .int .i64 x.f13, .slice A14 x.f14.length c14, .slice A15 x.f15.length c15, .slice A16 x.f16.length c16, .int .i64 x.f17], .pointer (some ⟨g, 0, none⟩)] W _
  clear hK
  go_enter Tryd.func54, Tryd.ntmps54
  go_wp2_with fail
  go_ret
  refine ⟨_, rfl, ?_, (Below.refl _ _).alloc (Nat.le_refl _) _⟩
  rfl
def takenE (P : S27) (i : Nat) : Bool := (P.f9.take i).any fun x => x.f0.toList == (P.f9.getD i z30).f0.toList
def kindE (P : S27) (R : S30) (n : Int) : Int :=
  if R.f1 = 1 then firstE [guardsE P.f3.length R.f7, setE R.f8 n, setE R.f9 n, valE P R.f10, valE P R.f11, setE R.f12 P.f3.length]
  else if R.f1 = 2 then firstE [idxE R.f4 n, idxE R.f5 n, valE P R.f10, valE P R.f11]
  else if R.f1 = 3 then firstE [respE R.f6 n, valE P R.f10, valE P R.f11]
  else if R.f1 = 4 then firstE [setE R.f14 n, setE R.f15 n, setE R.f16 n, whenE (decide (R.f13 < 0) || decide (2 < R.f13) || (R.f13 != 0 && P.f1 == 3)) 1]
  else firstE [idxE R.f4 n, idxE R.f5 n, whenE (decide (R.f17 < if P.f1 = 4 then 3 else 1) || decide ((if P.f1 = 4 then 4 else 2) < R.f17)) 1]
def ruleE (P : S27) (i : Nat) : Int :=
  if (!validB (P.f9.getD i z30).f0 || takenE P i) = true then 2
  else if (!fitsE (P.f9.getD i z30).f1 P.f1 || surE (P.f9.getD i z30) P.f1) = true then 6
  else if firstE [idxE (P.f9.getD i z30).f2 P.f2.length, idxE (P.f9.getD i z30).f3 P.f2.length] = 0 then kindE P (P.f9.getD i z30) P.f2.length
  else firstE [idxE (P.f9.getD i z30).f2 P.f2.length, idxE (P.f9.getD i z30).f3 P.f2.length]
def ruleSum (R : S30) : Nat := R.f6.length + R.f7.length + R.f8.length + R.f9.length + R.f12.length + R.f14.length + R.f15.length + R.f16.length
def ruleError.T8 : Bool × List (List Nat × List Nat) := (true, [([], []), ([0], [0]), ([], []), ([1, 2], [1, 2]), ([], []), ([4], [4]), ([], []), ([5, 6, 3], [5, 6]), ([3, 7], [3, 7]), ([8, 7], [8]), ([9, 9, 0, 1, 2, 3, 4, 5, 6, 7, 8, 9], [9])])
def ruleError.B8 : List Nat := [0, 1, 0, 7, 0, 16, 0, 127, 255, 511, 1023]
theorem ruleError.tab8 : rtab .any (opsOf Tryd.f36 8) = ruleError.T8 := by kernel_rfl
theorem ruleError.bits8 : waitsOk ruleError.T8.2 ruleError.B8 = true := by kernel_rfl
def ruleError.T13 : Bool × List (List Nat × List Nat) := (true, [([], []), ([], []), ([1], [1]), ([0, 2], [0, 2]), ([], []), ([4], [4]), ([], []), ([5, 6, 3], [5, 6]), ([], []), ([8], [8]), ([], []), ([9, 10, 7], [9, 10]), ([], []), ([], []), ([13], [13]), ([12, 14, 11], [12, 14]), ([], []), ([], []), ([17], [17]), ([16, 18, 15], [16, 18]), ([], []), ([20], [20]), ([], []), ([22], [22]), ([23], [23]), ([21, 24, 19], [21, 24]), ([3, 7, 11, 15, 19, 25], [3, 7, 11, 15, 19, 25]), ([26, 25], [26]), ([27, 27, 0, 1, 2, 3, 4, 5, 6, 7, 8, 9, 10, 11, 12, 13, 14, 15, 16, 17, 18, 19, 20, 21, 22, 23, 24, 25, 26, 27], [27])])
def ruleError.B13 : List Nat := [0, 0, 2, 7, 0, 16, 0, 127, 0, 256, 0, 2047, 0, 0, 8192, 32767, 0, 0, 131072, 524287, 0, 1048576, 0, 4194304, 12582912, 33554431, 67108863, 134217727, 268435455]
theorem ruleError.tab13 : rtab .any (opsOf Tryd.f36 13) = ruleError.T13 := by kernel_rfl
theorem ruleError.bits13 : waitsOk ruleError.T13.2 ruleError.B13 = true := by kernel_rfl
def ruleError.T15 : Bool × List (List Nat × List Nat) := (true, [([], []), ([0], [0]), ([], []), ([1, 2], [1, 2]), ([], []), ([4], [4]), ([], []), ([5, 6, 3], [5, 6]), ([], []), ([], []), ([9], [9]), ([8, 10, 7], [8, 10]), ([], []), ([], []), ([13], [13]), ([12, 14, 11], [12, 14]), ([3, 7, 11, 15], [3, 7, 11, 15]), ([16, 15], [16]), ([17, 17, 0, 1, 2, 3, 4, 5, 6, 7, 8, 9, 10, 11, 12, 13, 14, 15, 16, 17], [17])])
def ruleError.B15 : List Nat := [0, 1, 0, 7, 0, 16, 0, 127, 0, 0, 512, 2047, 0, 0, 8192, 32767, 65535, 131071, 262143]
theorem ruleError.tab15 : rtab .any (opsOf Tryd.f36 15) = ruleError.T15 := by kernel_rfl
theorem ruleError.bits15 : waitsOk ruleError.T15.2 ruleError.B15 = true := by kernel_rfl
def ruleError.T17 : Bool × List (List Nat × List Nat) := (true, [([], []), ([0], [0]), ([], []), ([1, 2], [1, 2]), ([], []), ([], []), ([5], [5]), ([4, 6, 3], [4, 6]), ([], []), ([], []), ([9], [9]), ([8, 10, 7], [8, 10]), ([3, 7, 11], [3, 7, 11]), ([12, 11], [12]), ([13, 13, 0, 1, 2, 3, 4, 5, 6, 7, 8, 9, 10, 11, 12, 13], [13])])
def ruleError.B17 : List Nat := [0, 1, 0, 7, 0, 0, 32, 127, 0, 0, 512, 2047, 4095, 8191, 16383]
theorem ruleError.tab17 : rtab .any (opsOf Tryd.f36 17) = ruleError.T17 := by kernel_rfl
theorem ruleError.bits17 : waitsOk ruleError.T17.2 ruleError.B17 = true := by kernel_rfl
def ruleError.T20 : Bool × List (List Nat × List Nat) := (true, [([], []), ([0], [0]), ([], []), ([1, 2], [1, 2]), ([], []), ([4], [4]), ([], []), ([5, 6, 3], [5, 6]), ([], []), ([8], [8]), ([], []), ([9, 10, 7], [9, 10]), ([], []), ([12, 11], [12]), ([3, 7, 11, 13], [3, 7, 11, 13]), ([14, 13], [14]), ([15, 15, 0, 1, 2, 3, 4, 5, 6, 7, 8, 9, 10, 11, 12, 13, 14, 15], [15])])
def ruleError.B20 : List Nat := [0, 1, 0, 7, 0, 16, 0, 127, 0, 256, 0, 2047, 0, 8191, 16383, 32767, 65535]
theorem ruleError.tab20 : rtab .any (opsOf Tryd.f36 20) = ruleError.T20 := by kernel_rfl
theorem ruleError.bits20 : waitsOk ruleError.T20.2 ruleError.B20 = true := by kernel_rfl
def ruleError.T24 : Bool × List (List Nat × List Nat) := (true, [([], []), ([0], [0]), ([], []), ([1, 2], [1, 2]), ([], []), ([4], [4]), ([], []), ([5, 6, 3], [5, 6]), ([], []), ([8], [8]), ([], []), ([9, 10], [9, 10]), ([11, 7], [11]), ([12], [12]), ([13, 12], [12, 13]), ([12], [12]), ([14, 15, 12], [12, 14, 15]), ([12, 16], [12, 16]), ([17, 12], [17]), ([3, 7, 18], [3, 7, 18]), ([19, 18], [19]), ([20, 20, 0, 1, 2, 3, 4, 5, 6, 7, 8, 9, 10, 11, 12, 13, 14, 15, 16, 17, 18, 19, 20], [20])])
def ruleError.B24 : List Nat := [0, 1, 0, 7, 0, 16, 0, 127, 0, 256, 0, 1792, 4095, 8191, 16383, 8191, 65535, 131071, 262143, 524287, 1048575, 2097151]
theorem ruleError.tab24 : rtab .any (opsOf Tryd.f36 24) = ruleError.T24 := by kernel_rfl
theorem ruleError.bits24 : waitsOk ruleError.T24.2 ruleError.B24 = true := by kernel_rfl
set_option maxHeartbeats 8000000 in
theorem rule_any (P : S27) (cs : List Value) (i : Nat) (w : World) (hG : Glob w) (hP : k27.K w P cs) (hi : i < P.f9.length) (hl : ruleSum (P.f9.getD i z30) ≤ 1000000) :
    Calls Tryd.prog 36 #[.agg cs.toArray, .int .i64 i] w fun e w' => e = .returned (.int .i64 (ruleE P i)) ∧ Below w.heap.size w w' := by
  have HP := Aside0.mk hP
  obtain ⟨B2, d2, B3, d3, B4, d4, B6, d6, B7, d7, B8, d8, B9, d9, rfl, _, _, _, _, _, _, _, _, _, _, _, _, l9, g9⟩ := k27_open hP
  have G9 := Aside0.mk g9
  have HG := Aside0.mk hG
  obtain ⟨ad, cs, rfl, hK, hn, hc⟩ := at_rule g9 i hi
  have HK := Aside0.mk hK
  obtain ⟨A6, c6, A7, c7, A8, c8, A9, c9, A12, c12, A14, c14, A15, c15, A16, c16, rfl, l6, g6, l7, g7, l8, g8, l9', g9', l12, g12, l14, g14, l15, g15, l16, g16⟩ := k30_open hK
  have K6 := Aside0.mk g6
  have K7 := Aside0.mk g7
  have K8 := Aside0.mk g8
  have K9n := Aside0.mk g9'
  have K12 := Aside0.mk g12
  have K14 := Aside0.mk g14
  have K15 := Aside0.mk g15
  have K16 := Aside0.mk g16
  have HX := Aside0.mk hc
  clear hc
  obtain ⟨r, hr⟩ : ∃ r, ruleE P i = r := ⟨_, rfl⟩
  have HRR := Aside0.mk hr
  unfold ruleE at hr
  have HE := Aside0.mk hr
  clear hr
  generalize hR : P.f9.getD i z30 = R at *
  clear hG hP g9 hK g6 g7 g8 g9' g12 g14 g15 g16
  go_enter Tryd.func36, Tryd.ntmps36
  go_upto_region 1 with (fail)
  go_cut [5] (fun v5 wc => ∃ g, v5 = .pointer (some ⟨g, 0, none⟩) ∧ w.heap.size < g ∧ Aside0 (wc.heap[w.heap.size]? = some (.cells #[.string P.f0, .int .i64 P.f1, .slice B2 P.f2.length d2, .slice B3 P.f3.length d3, .slice B4 P.f4.length d4, .int .i64 P.f5, .slice B6 P.f6.length d6, .slice B7 P.f7.length d7, .slice B8 P.f8.length d8, .slice (some ad) P.f9.length d9] 27 (0, 0))) ∧ Aside0 (wc.heap[g]? = some (.cells #[.string R.f0, .int .i64 R.f1, .int .i64 R.f2, .int .i64 R.f3, .int .i64 R.f4, .int .i64 R.f5, .slice A6 R.f6.length c6, .slice A7 R.f7.length c7, .slice A8 R.f8.length c8, .slice A9 R.f9.length c9, .int .i64 R.f10, .int .i64 R.f11, .slice A12 R.f12.length c12, .int .i64 R.f13, .slice A14 R.f14.length c14, .slice A15 R.f15.length c15, .slice A16 R.f16.length c16, .int .i64 R.f17] 30 (0, 0))) ∧ Aside0 (Below w.heap.size w wc))
  case first =>
    go_wp2_with ((with_reducible refine gate_dst (N := 16) rfl ?_); refine Kd.event_run rfl (load_run 30 (.tmp 15) rfl (ad.add (i * 18)) (by go_simp) [.string R.f0, .int .i64 R.f1, .int .i64 R.f2, .int .i64 R.f3, .int .i64 R.f4, .int .i64 R.f5, .slice A6 R.f6.length c6, .slice A7 R.f7.length c7, .slice A8 R.f8.length c8, .slice A9 R.f9.length c9, .int .i64 R.f10, .int .i64 R.f11, .slice A12 R.f12.length c12, .int .i64 R.f13, .slice A14 R.f14.length c14, .slice A15 R.f15.length c15, .slice A16 R.f16.length c16, .int .i64 R.f17] (fun w => Tryd.sizeOf30 w) Tryd.isAgg30 (fun j v hj => (World.cell?_alloc_lt _ _ _ (World.block_lt_of_cell? _ _ (HX.out j v hj))).trans (HX.out j v hj))) ?_; refine Halt.go ?_)
    unfold Halt
    refine new_event rfl rfl #[.string ByteArray.empty, .int .i64 0, .int .i64 0, .int .i64 0, .int .i64 0, .int .i64 0, .slice none 0 0, .slice none 0 0, .slice none 0 0, .slice none 0 0, .int .i64 0, .int .i64 0, .slice none 0 0, .int .i64 0, .slice none 0 0, .slice none 0 0, .slice none 0 0, .int .i64 0] #[.string R.f0, .int .i64 R.f1, .int .i64 R.f2, .int .i64 R.f3, .int .i64 R.f4, .int .i64 R.f5, .slice A6 R.f6.length c6, .slice A7 R.f7.length c7, .slice A8 R.f8.length c8, .slice A9 R.f9.length c9, .int .i64 R.f10, .int .i64 R.f11, .slice A12 R.f12.length c12, .int .i64 R.f13, .slice A14 R.f14.length c14, .slice A15 R.f15.length c15, .slice A16 R.f16.length c16, .int .i64 R.f17] 30 ?k1 rfl rfl (.tmp 5) (.tmp 16) rfl ?k2 ?k3 ?k4 ?k5 ?k6 ?_
    case k1 => go_simp; rfl
    case k2 => go_simp
    case k3 => go_simp
    case k4 => kernel_rfl
    case k5 => rfl
    case k6 => simp [Value.oneCell']
    intro g hg w1 hb1 hbw1
    have hgw : w.heap.size < g := by rw [hg]; simp
    clear hg
    go_wp2_with fail
    go_meet
    exact ⟨g, rfl, hgw, ⟨(hbw1.block _ (by simp)).trans (heap_alloc_new _ _)⟩, ⟨hb1⟩, ⟨((Below.refl _ _).alloc (Nat.le_refl _) _).trans (hbw1.mono (by simp))⟩⟩
  case rest =>
    obtain ⟨g, rfl, hgw, BP, BR, HB⟩ := hcut
    have hmf : ∀ (fn : Fn) (first cap : Array Value) (w : World), (Instr.makeFunc fn first cap).run Tryd.prog w = .ok (.func fn first cap) w := fun _ _ _ _ => rfl
    have p2 : wc.cell? ⟨w.heap.size, 2, none⟩ = some (.slice B2 P.f2.length d2) := (blk_cell BP.out 2).trans rfl
    have p9 : wc.cell? ⟨w.heap.size, 9, none⟩ = some (.slice (some ad) P.f9.length d9) := (blk_cell BP.out 9).trans rfl
    have r0 : wc.cell? ⟨g, 0, none⟩ = some (.string R.f0) := (blk_cell BR.out 0).trans rfl
    have hil : (i : Int) ≤ d9 := by omega
    go_wp2_with fail
    have htl : (P.f9.take i).length = i := by rw [List.length_take]; omega
    have hcc := contains_any 54 #[.pointer (some ⟨g, 0, none⟩)] (fun x b => b = (x.f0.toList == R.f0.toList)) (some ad) d9 (P.f9.take i) wc (by rw [htl]; exact C_take (Kd.C_below G9.out HB.out) i (by omega)) (same_any g R.f0 wc r0 (blk_lt BR.out)) (fun args w => enters_ Tryd.func54 (by kernel_rfl) rfl args w)
    rw [htl] at hcc
    refine hcc.mono ?_
    clear hcc
    rintro e w2 ⟨tk, rfl, htk, hB⟩
    have hte : takenE P i = tk := by
      unfold takenE
      rw [hR]
      rcases htk with ⟨rfl, h⟩ | ⟨rfl, j, hj, h⟩
      · rw [List.any_eq_false]
        intro x hx
        obtain ⟨j, hj, rfl⟩ := List.getElem_of_mem hx
        have := h j (by omega)
        rw [List.getD_eq_getElem?_getD, List.getElem?_eq_getElem hj, Option.getD_some] at this
        rw [← this]
        decide
      · rw [List.any_eq_true]
        have hj2 : j < (P.f9.take i).length := by omega
        rw [List.getD_eq_getElem?_getD, List.getElem?_eq_getElem hj2, Option.getD_some] at h
        exact ⟨_, List.getElem_mem hj2, h.symm⟩
    rw [hte] at HE
    clear htk hte
    clear p2 p9 r0
    have n0_ := Aside0.mk (blk_below BP.out hB)
    have n1_ := Aside0.mk (blk_below BR.out hB)
    have n2_ := Aside0.mk (HB.out.trans (Below.mono hB HB.out.size))
    clear BP BR HB
    have BP := n0_
    have BR := n1_
    have HB := n2_
    clear n0_ n1_ n2_
    clear hB
    have p1 : w2.cell? ⟨w.heap.size, 1, none⟩ = some (.int .i64 P.f1) := (blk_cell BP.out 1).trans rfl
    have r0 : w2.cell? ⟨g, 0, none⟩ = some (.string R.f0) := (blk_cell BR.out 0).trans rfl
    have r1 : w2.cell? ⟨g, 1, none⟩ = some (.int .i64 R.f1) := (blk_cell BR.out 1).trans rfl
    go_wp2_with fail
    refine (protocol_ValidName.calls R.f0 (validB R.f0) w2 (Glob_below HG.out HB.out) rfl).mono ?_
    rintro e w3 ⟨rfl, hB⟩
    clear p1 r0 r1
    have n0_ := Aside0.mk (blk_below BP.out hB)
    have n1_ := Aside0.mk (blk_below BR.out hB)
    have n2_ := Aside0.mk (HB.out.trans (Below.mono hB HB.out.size))
    clear BP BR HB
    have BP := n0_
    have BR := n1_
    have HB := n2_
    clear n0_ n1_ n2_
    clear hB
    have p1 : w3.cell? ⟨w.heap.size, 1, none⟩ = some (.int .i64 P.f1) := (blk_cell BP.out 1).trans rfl
    have r0 : w3.cell? ⟨g, 0, none⟩ = some (.string R.f0) := (blk_cell BR.out 0).trans rfl
    have r1 : w3.cell? ⟨g, 1, none⟩ = some (.int .i64 R.f1) := (blk_cell BR.out 1).trans rfl
    cases hv : validB R.f0 with
    | false =>
      have HE2 : r = 2 := by rw [← HE.out, hv]; rfl
      go_wp2_with fail
      go_ret
      exact ⟨by rw [HRR.out, HE2]; rfl, HB.out⟩
    | true =>
      cases tk with
      | true =>
        have HE2 : r = 2 := by rw [← HE.out, hv]; rfl
        go_wp2_with fail
        go_ret
        exact ⟨by rw [HRR.out, HE2]; rfl, HB.out⟩
      | false =>
        rw [hv] at HE
        simp only [Bool.not_true, Bool.false_or, if_false, Bool.false_eq_true] at HE
        clear hv
        go_wp2_with fail
        refine (fits_any R.f1 P.f1 w3).mono ?_
        rintro e w' ⟨rfl, rfl⟩
        cases hf : fitsE R.f1 P.f1 with
        | false =>
          have HE2 : r = 6 := by rw [← HE.out, hf]; rfl
          go_wp2_with fail
          go_ret
          exact ⟨by rw [HRR.out, HE2]; rfl, HB.out⟩
        | true =>
          rw [hf] at HE
          simp only [Bool.not_true, Bool.false_or] at HE
          clear hf
          go_wp2_with ((with_reducible refine gate_dst (N := 42) rfl ?_); (try (refine gate_guard (by rfl) ?_; dsimp only)); refine Kd.event_run rfl (load_run 30 (.tmp 5) rfl ⟨g, 0, none⟩ (by go_simp) [.string R.f0, .int .i64 R.f1, .int .i64 R.f2, .int .i64 R.f3, .int .i64 R.f4, .int .i64 R.f5, .slice A6 R.f6.length c6, .slice A7 R.f7.length c7, .slice A8 R.f8.length c8, .slice A9 R.f9.length c9, .int .i64 R.f10, .int .i64 R.f11, .slice A12 R.f12.length c12, .int .i64 R.f13, .slice A14 R.f14.length c14, .slice A15 R.f15.length c15, .slice A16 R.f16.length c16, .int .i64 R.f17] (fun w => Tryd.sizeOf30 w) Tryd.isAgg30 (fun j v hj => by rw [Addr.add_lit, Nat.zero_add]; exact (blk_cell BR.out j).trans (by simpa using hj))) ?_)
          refine (surplus_any R [.string R.f0, .int .i64 R.f1, .int .i64 R.f2, .int .i64 R.f3, .int .i64 R.f4, .int .i64 R.f5, .slice A6 R.f6.length c6, .slice A7 R.f7.length c7, .slice A8 R.f8.length c8, .slice A9 R.f9.length c9, .int .i64 R.f10, .int .i64 R.f11, .slice A12 R.f12.length c12, .int .i64 R.f13, .slice A14 R.f14.length c14, .slice A15 R.f15.length c15, .slice A16 R.f16.length c16, .int .i64 R.f17] P.f1 _ (k30.K_below HB.out HK.out) hl).mono ?_
          rintro e w4 ⟨rfl, hB⟩
          clear p1 r0 r1
          have n0_ := Aside0.mk (blk_below BP.out hB)
          have n1_ := Aside0.mk (blk_below BR.out hB)
          have n2_ := Aside0.mk (HB.out.trans (Below.mono hB HB.out.size))
          clear BP BR HB
          have BP := n0_
          have BR := n1_
          have HB := n2_
          clear n0_ n1_ n2_
          clear hB
          cases hf : surE R P.f1 with
          | true =>
            have HE2 : r = 6 := by rw [← HE.out, hf]; rfl
            go_wp2_with fail
            go_ret
            exact ⟨by rw [HRR.out, HE2]; rfl, HB.out⟩
          | false =>
            rw [hf] at HE
            simp only [if_false, Bool.false_eq_true] at HE
            clear hf
            go_upto_region 8 with (fail)
            have n0_ := Aside0.mk (blk_drew BP.out)
            have n1_ := Aside0.mk (blk_drew BR.out)
            have n2_ := Aside0.mk (below_drew1 HB.out)
            clear BP BR HB
            have BP := n0_
            have BR := n1_
            have HB := n2_
            clear n0_ n1_ n2_
            refine start_ (n := 11) (S := fun w' => w'.cell? ⟨g, 2, none⟩ = some (.int .i64 R.f2) ∧ w'.cell? ⟨g, 3, none⟩ = some (.int .i64 R.f3)) (ds := []) #[false, false, false, false, false, false, false, false, false, false, false] (by kernel_rfl) rfl rfl ⟨(blk_cell BR.out 2).trans rfl, (blk_cell BR.out 3).trans rfl⟩ (fun hHeld => ?_)
            refine with_tabW ruleError.tab8 ruleError.bits8 (fun HT_ HW_ => ?_)
            refine pure_ (i := 0) (N := some 47) (v := ?_) (a' := ?_) #[true, false, false, false, false, false, false, false, false, false, false] rfl rfl (any_of HT_.out (by kernel_rfl)) (fun _ _ _ h => h) (Or.inl ⟨by rfl, ?_⟩) ?_ ?_
            rotate_left
            · intro w'
              go_simp
              with_reducible rfl
            rotate_left
            · simp only [Act.put, List.setIfInBounds_toArray, List.set_cons_zero, List.set_cons_succ, i64_w, i32_w]
              rfl
            refine pure_ (i := 2) (N := some 49) (v := ?_) (a' := ?_) #[true, false, true, false, false, false, false, false, false, false, false] rfl rfl (any_of HT_.out (by kernel_rfl)) (fun _ _ _ h => h) (Or.inl ⟨by rfl, ?_⟩) ?_ ?_
            rotate_left
            · intro w'
              go_simp
              with_reducible rfl
            rotate_left
            · simp only [Act.put, List.setIfInBounds_toArray, List.set_cons_zero, List.set_cons_succ, i64_w, i32_w]
              rfl
            refine pure_ (i := 4) (N := some 51) (v := ?_) (a' := ?_) #[true, false, true, false, true, false, false, false, false, false, false] rfl rfl (any_of HT_.out (by kernel_rfl)) (fun _ _ _ h => h) (Or.inl ⟨by rfl, ?_⟩) ?_ ?_
            rotate_left
            · intro w'
              go_simp
              with_reducible rfl
            rotate_left
            · simp only [Act.put, List.setIfInBounds_toArray, List.set_cons_zero, List.set_cons_succ, i64_w, i32_w]
              rfl
            refine pure_ (i := 6) (N := some 53) (v := ?_) (a' := ?_) #[true, false, true, false, true, false, true, false, false, false, false] rfl rfl (any_of HT_.out (by kernel_rfl)) (fun _ _ _ h => h) (Or.inl ⟨by rfl, ?_⟩) ?_ ?_
            rotate_left
            · intro w'
              go_simp
              with_reducible rfl
            rotate_left
            · simp only [Act.put, List.setIfInBounds_toArray, List.set_cons_zero, List.set_cons_succ, i64_w, i32_w]
              rfl
            refine take_ (i := 1) (N := some 48) (v := ?_) (a' := ?_) #[true, true, true, false, true, false, true, false, false, false, false] rfl rfl (take_ofW HT_.out HW_.out (by kernel_rfl)) (fun _ _ _ h => h) (Or.inl ⟨by rfl, ?_⟩) hHeld ?_ ?_
            rotate_left
            · rintro w' ⟨s0, s1⟩
              go_simp
              with_reducible rfl
            rotate_left
            · simp only [Act.put, List.setIfInBounds_toArray, List.set_cons_zero, List.set_cons_succ, i64_w, i32_w]
              rfl
            refine take_ (i := 5) (N := some 52) (v := ?_) (a' := ?_) #[true, true, true, false, true, true, true, false, false, false, false] rfl rfl (take_ofW HT_.out HW_.out (by kernel_rfl)) (fun _ _ _ h => h) (Or.inl ⟨by rfl, ?_⟩) hHeld ?_ ?_
            rotate_left
            · rintro w' ⟨s0, s1⟩
              go_simp
              with_reducible rfl
            rotate_left
            · simp only [Act.put, List.setIfInBounds_toArray, List.set_cons_zero, List.set_cons_succ, i64_w, i32_w]
              rfl
            refine one_ (i := 3) (N := some 50) #[true, true, true, true, true, true, true, false, false, false, false] rfl rfl (one_of HT_.out (by kernel_rfl)) (by decide) (fun K hK => ?_)
            refine goes_ Tryd.func57 (by kernel_rfl) rfl #[.int .i64 R.f2, .int .i64 (P.f2.length : Int)] (by rfl) rfl rfl (by first | rfl | (simp only [List.map_toArray, List.map_cons, List.map_nil]; rfl)) ?_
            refine (idx_any _ _ _).mono ?_
            rintro e w' ⟨rfl, rfl⟩
            refine ⟨_, rfl, ?_⟩
            refine hK.out _ _ ⟨(blk_cell BR.out 2).trans rfl, (blk_cell BR.out 3).trans rfl⟩ (fun hHeld => ?_)
            clear hK K
            refine norm_ (a' := ?_) ?_ ?_
            rotate_left
            · show Act.put _ (some 50) _ = _
              simp only [Act.put, List.setIfInBounds_toArray, List.set_cons_zero, List.set_cons_succ, i64_w, i32_w]
              rfl
            refine one_ (i := 7) (N := some 54) #[true, true, true, true, true, true, true, true, false, false, false] rfl rfl (one_of HT_.out (by kernel_rfl)) (by decide) (fun K hK => ?_)
            refine goes_ Tryd.func57 (by kernel_rfl) rfl #[.int .i64 R.f3, .int .i64 (P.f2.length : Int)] (by rfl) rfl rfl (by first | rfl | (simp only [List.map_toArray, List.map_cons, List.map_nil]; rfl)) ?_
            refine (idx_any _ _ _).mono ?_
            rintro e w' ⟨rfl, rfl⟩
            refine ⟨_, rfl, ?_⟩
            refine hK.out _ _ ⟨(blk_cell BR.out 2).trans rfl, (blk_cell BR.out 3).trans rfl⟩ (fun hHeld => ?_)
            clear hK K
            refine norm_ (a' := ?_) ?_ ?_
            rotate_left
            · show Act.put _ (some 54) _ = _
              simp only [Act.put, List.setIfInBounds_toArray, List.set_cons_zero, List.set_cons_succ, i64_w, i32_w]
              rfl
            refine one_ (i := 8) (N := some 55) #[true, true, true, true, true, true, true, true, true, false, false] rfl rfl (one_of HT_.out (by kernel_rfl)) (by decide) (fun K hK => ?_)
            refine Kd.R_lit_step (Kd.int .i64) _ 36 ?hg (N := 55) ?hd (xs := ([(idxE R.f2 (P.f2.length : Int)), (idxE R.f3 (P.f2.length : Int))] : List Int)) (inner := [.int .i64 (idxE R.f2 (P.f2.length : Int)), .int .i64 (idxE R.f3 (P.f2.length : Int))]) (ok := fun _ => True) (okp := fun _ => True) ?hr ?hp (fun _ hk => hk) trivial (Below.refl _ _) (Nat.le_refl _) (by simp) ?_; (case hd => rfl); (case hg => rfl); (case hr => first | (go_simp; done) | (go_simp; rfl)); (case hp => exact (Reps.one (show Kd.M (Kd.int .i64) _ _ _ (idxE R.f2 (P.f2.length : Int)) [.int .i64 (idxE R.f2 (P.f2.length : Int))] from rfl) (Reps.one (show Kd.M (Kd.int .i64) _ _ _ (idxE R.f3 (P.f2.length : Int)) [.int .i64 (idxE R.f3 (P.f2.length : Int))] from rfl) (Reps.none _ _))))
            intro vL wL ho hb hg_ hnew_
            clear hg_ hnew_
            obtain ⟨aL, cL, rfl⟩ := Kd.R_slice ho
            have HL := Aside0.mk (Kd.R_reads' ho)
            clear ho
            have n0_ := Aside0.mk (blk_below BP.out hb)
            have n1_ := Aside0.mk (blk_below BR.out hb)
            have n2_ := Aside0.mk (HB.out.trans (Below.mono hb HB.out.size))
            clear BP BR HB
            have BP := n0_
            have BR := n1_
            have HB := n2_
            clear n0_ n1_ n2_
            clear hb
            refine hK.out _ _ ⟨(blk_cell BR.out 2).trans rfl, (blk_cell BR.out 3).trans rfl⟩ (fun hHeld => ?_)
            clear hK K
            refine norm_ (a' := ?_) ?_ ?_
            rotate_left
            · show Act.put _ (some 55) _ = _
              simp only [Act.put, List.setIfInBounds_toArray, List.set_cons_zero, List.set_cons_succ, i64_w, i32_w]
              rfl
            refine one_ (i := 9) (N := some 56) #[true, true, true, true, true, true, true, true, true, true, false] rfl rfl (one_of HT_.out (by kernel_rfl)) (by decide) (fun K hK => ?_)
            refine goes_ Tryd.func22 (by kernel_rfl) rfl #[.slice aL 2 cL] (by rfl) rfl rfl (by first | rfl | (simp only [List.map_toArray, List.map_cons, List.map_nil]; rfl)) ?_
            refine (first_any _ _ [(idxE R.f2 (P.f2.length : Int)), (idxE R.f3 (P.f2.length : Int))] _ HL.out.2.2).mono ?_
            rintro e w' ⟨rfl, rfl⟩
            refine ⟨_, rfl, ?_⟩
            refine hK.out _ _ ⟨(blk_cell BR.out 2).trans rfl, (blk_cell BR.out 3).trans rfl⟩ (fun hHeld => ?_)
            clear hK K
            refine norm_ (a' := ?_) ?_ ?_
            rotate_left
            · show Act.put _ (some 56) _ = _
              simp only [Act.put, List.setIfInBounds_toArray, List.set_cons_zero, List.set_cons_succ, i64_w, i32_w]
              rfl
            refine pure_ (i := 10) (N := some 8) (v := ?_) (a' := ?_) #[true, true, true, true, true, true, true, true, true, true, true] rfl rfl (any_of HT_.out (by kernel_rfl)) (fun _ _ _ h => h) (Or.inl ⟨by rfl, ?_⟩) ?_ ?_
            rotate_left
            · intro w'
              go_simp
              with_reducible rfl
            rotate_left
            · simp only [Act.put, List.setIfInBounds_toArray, List.set_cons_zero, List.set_cons_succ, i64_w, i32_w]
              rfl
            refine done_ (done_of HT_.out (by kernel_rfl)) ?_
            clear HL hHeld
            have HE2 := HE.out
            clear HE
            obtain ⟨q, hq⟩ : ∃ q, q = firstE [idxE R.f2 (P.f2.length : Int), idxE R.f3 (P.f2.length : Int)] := ⟨_, rfl⟩
            rw [← hq] at HE2 ⊢
            clear hq
            by_cases h0 : q = 0
            · have d0 : (q != 0) = false := bne_eq_false_iff_eq.mpr h0
              rw [if_pos h0] at HE2
              unfold kindE at HE2
              have HE := Aside0.mk HE2
              clear HE2 h0
              obtain ⟨w5, hw5⟩ : ∃ w5, w5 = w' := ⟨_, rfl⟩
              rw [← hw5] at BP BR HB ⊢
              clear hw5
              have p1 : w5.cell? ⟨w.heap.size, 1, none⟩ = some (.int .i64 P.f1) := (blk_cell BP.out 1).trans rfl
              have r1 : w5.cell? ⟨g, 1, none⟩ = some (.int .i64 R.f1) := (blk_cell BR.out 1).trans rfl
              have r13 : w5.cell? ⟨g, 13, none⟩ = some (.int .i64 R.f13) := (blk_cell BR.out 13).trans rfl
              by_cases h1 : R.f1 = 1
              · have e1 : (R.f1 == 1) = true := beq_iff_eq.mpr h1
                rw [if_pos h1] at HE
                go_upto_region 13 with (fail)
                clear p1 r1 r13
                have n0_ := Aside0.mk (blk_drew BP.out)
                have n1_ := Aside0.mk (blk_drew BR.out)
                have n2_ := Aside0.mk (below_drew1 HB.out)
                clear BP BR HB
                have BP := n0_
                have BR := n1_
                have HB := n2_
                clear n0_ n1_ n2_
                refine start_ (n := 29) (S := fun w' => w'.cell? ⟨g, 7, none⟩ = some (.slice A7 R.f7.length c7) ∧ w'.cell? ⟨g, 8, none⟩ = some (.slice A8 R.f8.length c8) ∧ w'.cell? ⟨g, 9, none⟩ = some (.slice A9 R.f9.length c9) ∧ w'.cell? ⟨g, 10, none⟩ = some (.int .i64 R.f10) ∧ w'.cell? ⟨g, 11, none⟩ = some (.int .i64 R.f11) ∧ w'.cell? ⟨g, 12, none⟩ = some (.slice A12 R.f12.length c12) ∧ w'.cell? ⟨w.heap.size, 0, none⟩ = some (.string P.f0) ∧ w'.cell? ⟨w.heap.size, 1, none⟩ = some (.int .i64 P.f1) ∧ w'.cell? ⟨w.heap.size, 2, none⟩ = some (.slice B2 P.f2.length d2) ∧ w'.cell? ⟨w.heap.size, 3, none⟩ = some (.slice B3 P.f3.length d3) ∧ w'.cell? ⟨w.heap.size, 4, none⟩ = some (.slice B4 P.f4.length d4) ∧ w'.cell? ⟨w.heap.size, 5, none⟩ = some (.int .i64 P.f5) ∧ w'.cell? ⟨w.heap.size, 6, none⟩ = some (.slice B6 P.f6.length d6) ∧ w'.cell? ⟨w.heap.size, 7, none⟩ = some (.slice B7 P.f7.length d7) ∧ w'.cell? ⟨w.heap.size, 8, none⟩ = some (.slice B8 P.f8.length d8) ∧ w'.cell? ⟨w.heap.size, 9, none⟩ = some (.slice (some ad) P.f9.length d9)) (ds := []) #[false, false, false, false, false, false, false, false, false, false, false, false, false, false, false, false, false, false, false, false, false, false, false, false, false, false, false, false, false] (by kernel_rfl) rfl rfl ⟨(blk_cell BR.out 7).trans rfl, (blk_cell BR.out 8).trans rfl, (blk_cell BR.out 9).trans rfl, (blk_cell BR.out 10).trans rfl, (blk_cell BR.out 11).trans rfl, (blk_cell BR.out 12).trans rfl, (blk_cell BP.out 0).trans rfl, (blk_cell BP.out 1).trans rfl, (blk_cell BP.out 2).trans rfl, (blk_cell BP.out 3).trans rfl, (blk_cell BP.out 4).trans rfl, (blk_cell BP.out 5).trans rfl, (blk_cell BP.out 6).trans rfl, (blk_cell BP.out 7).trans rfl, (blk_cell BP.out 8).trans rfl, (blk_cell BP.out 9).trans rfl⟩ (fun hHeld => ?_)
                refine with_tabW ruleError.tab13 ruleError.bits13 (fun HT_ HW_ => ?_)
                refine pure_ (i := 1) (N := some 65) (v := ?_) (a' := ?_) #[false, true, false, false, false, false, false, false, false, false, false, false, false, false, false, false, false, false, false, false, false, false, false, false, false, false, false, false, false] rfl rfl (any_of HT_.out (by kernel_rfl)) (fun _ _ _ h => h) (Or.inl ⟨by rfl, ?_⟩) ?_ ?_
                rotate_left
                · intro w'
                  go_simp
                  with_reducible rfl
                rotate_left
                · simp only [Act.put, List.setIfInBounds_toArray, List.set_cons_zero, List.set_cons_succ, i64_w, i32_w]
                  rfl
                refine pure_ (i := 4) (N := some 68) (v := ?_) (a' := ?_) #[false, true, false, false, true, false, false, false, false, false, false, false, false, false, false, false, false, false, false, false, false, false, false, false, false, false, false, false, false] rfl rfl (any_of HT_.out (by kernel_rfl)) (fun _ _ _ h => h) (Or.inl ⟨by rfl, ?_⟩) ?_ ?_
                rotate_left
                · intro w'
                  go_simp
                  with_reducible rfl
                rotate_left
                · simp only [Act.put, List.setIfInBounds_toArray, List.set_cons_zero, List.set_cons_succ, i64_w, i32_w]
                  rfl
                refine pure_ (i := 6) (N := some 70) (v := ?_) (a' := ?_) #[false, true, false, false, true, false, true, false, false, false, false, false, false, false, false, false, false, false, false, false, false, false, false, false, false, false, false, false, false] rfl rfl (any_of HT_.out (by kernel_rfl)) (fun _ _ _ h => h) (Or.inl ⟨by rfl, ?_⟩) ?_ ?_
                rotate_left
                · intro w'
                  go_simp
                  with_reducible rfl
                rotate_left
                · simp only [Act.put, List.setIfInBounds_toArray, List.set_cons_zero, List.set_cons_succ, i64_w, i32_w]
                  rfl
                refine pure_ (i := 8) (N := some 72) (v := ?_) (a' := ?_) #[false, true, false, false, true, false, true, false, true, false, false, false, false, false, false, false, false, false, false, false, false, false, false, false, false, false, false, false, false] rfl rfl (any_of HT_.out (by kernel_rfl)) (fun _ _ _ h => h) (Or.inl ⟨by rfl, ?_⟩) ?_ ?_
                rotate_left
                · intro w'
                  go_simp
                  with_reducible rfl
                rotate_left
                · simp only [Act.put, List.setIfInBounds_toArray, List.set_cons_zero, List.set_cons_succ, i64_w, i32_w]
                  rfl
                refine pure_ (i := 10) (N := some 74) (v := ?_) (a' := ?_) #[false, true, false, false, true, false, true, false, true, false, true, false, false, false, false, false, false, false, false, false, false, false, false, false, false, false, false, false, false] rfl rfl (any_of HT_.out (by kernel_rfl)) (fun _ _ _ h => h) (Or.inl ⟨by rfl, ?_⟩) ?_ ?_
                rotate_left
                · intro w'
                  go_simp
                  with_reducible rfl
                rotate_left
                · simp only [Act.put, List.setIfInBounds_toArray, List.set_cons_zero, List.set_cons_succ, i64_w, i32_w]
                  rfl
                refine pure_ (i := 13) (N := some 77) (v := ?_) (a' := ?_) #[false, true, false, false, true, false, true, false, true, false, true, false, false, true, false, false, false, false, false, false, false, false, false, false, false, false, false, false, false] rfl rfl (any_of HT_.out (by kernel_rfl)) (fun _ _ _ h => h) (Or.inl ⟨by rfl, ?_⟩) ?_ ?_
                rotate_left
                · intro w'
                  go_simp
                  with_reducible rfl
                rotate_left
                · simp only [Act.put, List.setIfInBounds_toArray, List.set_cons_zero, List.set_cons_succ, i64_w, i32_w]
                  rfl
                refine pure_ (i := 17) (N := some 81) (v := ?_) (a' := ?_) #[false, true, false, false, true, false, true, false, true, false, true, false, false, true, false, false, false, true, false, false, false, false, false, false, false, false, false, false, false] rfl rfl (any_of HT_.out (by kernel_rfl)) (fun _ _ _ h => h) (Or.inl ⟨by rfl, ?_⟩) ?_ ?_
                rotate_left
                · intro w'
                  go_simp
                  with_reducible rfl
                rotate_left
                · simp only [Act.put, List.setIfInBounds_toArray, List.set_cons_zero, List.set_cons_succ, i64_w, i32_w]
                  rfl
                refine pure_ (i := 20) (N := some 84) (v := ?_) (a' := ?_) #[false, true, false, false, true, false, true, false, true, false, true, false, false, true, false, false, false, true, false, false, true, false, false, false, false, false, false, false, false] rfl rfl (any_of HT_.out (by kernel_rfl)) (fun _ _ _ h => h) (Or.inl ⟨by rfl, ?_⟩) ?_ ?_
                rotate_left
                · intro w'
                  go_simp
                  with_reducible rfl
                rotate_left
                · simp only [Act.put, List.setIfInBounds_toArray, List.set_cons_zero, List.set_cons_succ, i64_w, i32_w]
                  rfl
                refine pure_ (i := 22) (N := some 86) (v := ?_) (a' := ?_) #[false, true, false, false, true, false, true, false, true, false, true, false, false, true, false, false, false, true, false, false, true, false, true, false, false, false, false, false, false] rfl rfl (any_of HT_.out (by kernel_rfl)) (fun _ _ _ h => h) (Or.inl ⟨by rfl, ?_⟩) ?_ ?_
                rotate_left
                · intro w'
                  go_simp
                  with_reducible rfl
                rotate_left
                · simp only [Act.put, List.setIfInBounds_toArray, List.set_cons_zero, List.set_cons_succ, i64_w, i32_w]
                  rfl
                refine take_ (i := 0) (N := some 64) (v := ?_) (a' := ?_) #[true, true, false, false, true, false, true, false, true, false, true, false, false, true, false, false, false, true, false, false, true, false, true, false, false, false, false, false, false] rfl rfl (take_ofW HT_.out HW_.out (by kernel_rfl)) (fun _ _ _ h => h) (Or.inl ⟨by rfl, ?_⟩) hHeld ?_ ?_
                rotate_left
                · rintro w' ⟨s0, s1, s2, s3, s4, s5, s6, s7, s8, s9, s10, s11, s12, s13, s14, s15⟩
                  go_simp
                  with_reducible rfl
                rotate_left
                · simp only [Act.put, List.setIfInBounds_toArray, List.set_cons_zero, List.set_cons_succ, i64_w, i32_w]
                  rfl
                refine take_ (i := 2) (N := some 66) (v := ?_) (a' := ?_) #[true, true, true, false, true, false, true, false, true, false, true, false, false, true, false, false, false, true, false, false, true, false, true, false, false, false, false, false, false] rfl rfl (take_ofW HT_.out HW_.out (by kernel_rfl)) (fun _ _ _ h => h) (Or.inl ⟨by rfl, ?_⟩) hHeld ?_ ?_
                rotate_left
                · rintro w' ⟨s0, s1, s2, s3, s4, s5, s6, s7, s8, s9, s10, s11, s12, s13, s14, s15⟩
                  go_simp
                  with_reducible rfl
                rotate_left
                · simp only [Act.put, List.setIfInBounds_toArray, List.set_cons_zero, List.set_cons_succ, i64_w, i32_w]
                  rfl
                refine take_ (i := 5) (N := some 69) (v := ?_) (a' := ?_) #[true, true, true, false, true, true, true, false, true, false, true, false, false, true, false, false, false, true, false, false, true, false, true, false, false, false, false, false, false] rfl rfl (take_ofW HT_.out HW_.out (by kernel_rfl)) (fun _ _ _ h => h) (Or.inl ⟨by rfl, ?_⟩) hHeld ?_ ?_
                rotate_left
                · rintro w' ⟨s0, s1, s2, s3, s4, s5, s6, s7, s8, s9, s10, s11, s12, s13, s14, s15⟩
                  go_simp
                  with_reducible rfl
                rotate_left
                · simp only [Act.put, List.setIfInBounds_toArray, List.set_cons_zero, List.set_cons_succ, i64_w, i32_w]
                  rfl
                refine take_ (i := 9) (N := some 73) (v := ?_) (a' := ?_) #[true, true, true, false, true, true, true, false, true, true, true, false, false, true, false, false, false, true, false, false, true, false, true, false, false, false, false, false, false] rfl rfl (take_ofW HT_.out HW_.out (by kernel_rfl)) (fun _ _ _ h => h) (Or.inl ⟨by rfl, ?_⟩) hHeld ?_ ?_
                rotate_left
                · rintro w' ⟨s0, s1, s2, s3, s4, s5, s6, s7, s8, s9, s10, s11, s12, s13, s14, s15⟩
                  go_simp
                  with_reducible rfl
                rotate_left
                · simp only [Act.put, List.setIfInBounds_toArray, List.set_cons_zero, List.set_cons_succ, i64_w, i32_w]
                  rfl
                refine take_ (i := 12) (N := some 76) (v := ?_) (a' := ?_) #[true, true, true, false, true, true, true, false, true, true, true, false, true, true, false, false, false, true, false, false, true, false, true, false, false, false, false, false, false] rfl rfl (take_ofW HT_.out HW_.out (by kernel_rfl)) (fun _ _ _ h => h) (Or.inl ⟨by rfl, ?_⟩) hHeld ?_ ?_
                rotate_left
                · rintro w' ⟨s0, s1, s2, s3, s4, s5, s6, s7, s8, s9, s10, s11, s12, s13, s14, s15⟩
                  go_simp
                  with_reducible rfl
                rotate_left
                · simp only [Act.put, List.setIfInBounds_toArray, List.set_cons_zero, List.set_cons_succ, i64_w, i32_w]
                  rfl
                refine take_ (i := 14) (N := some 78) (v := ?_) (a' := ?_) #[true, true, true, false, true, true, true, false, true, true, true, false, true, true, true, false, false, true, false, false, true, false, true, false, false, false, false, false, false] rfl rfl (take_ofW HT_.out HW_.out (by kernel_rfl)) (fun _ _ _ h => h) (Or.inl ⟨by rfl, ?_⟩) hHeld ?_ ?_
                rotate_left
                · rintro w' ⟨s0, s1, s2, s3, s4, s5, s6, s7, s8, s9, s10, s11, s12, s13, s14, s15⟩
                  go_simp
                  with_reducible rfl
                rotate_left
                · simp only [Act.put, List.setIfInBounds_toArray, List.set_cons_zero, List.set_cons_succ, i64_w, i32_w]
                  rfl
                refine take_ (i := 16) (N := some 80) (v := ?_) (a' := ?_) #[true, true, true, false, true, true, true, false, true, true, true, false, true, true, true, false, true, true, false, false, true, false, true, false, false, false, false, false, false] rfl rfl (take_ofW HT_.out HW_.out (by kernel_rfl)) (fun _ _ _ h => h) (Or.inl ⟨by rfl, ?_⟩) hHeld ?_ ?_
                rotate_left
                · rintro w' ⟨s0, s1, s2, s3, s4, s5, s6, s7, s8, s9, s10, s11, s12, s13, s14, s15⟩
                  go_simp
                  with_reducible rfl
                rotate_left
                · simp only [Act.put, List.setIfInBounds_toArray, List.set_cons_zero, List.set_cons_succ, i64_w, i32_w]
                  rfl
                refine take_ (i := 18) (N := some 82) (v := ?_) (a' := ?_) #[true, true, true, false, true, true, true, false, true, true, true, false, true, true, true, false, true, true, true, false, true, false, true, false, false, false, false, false, false] rfl rfl (take_ofW HT_.out HW_.out (by kernel_rfl)) (fun _ _ _ h => h) (Or.inl ⟨by rfl, ?_⟩) hHeld ?_ ?_
                rotate_left
                · rintro w' ⟨s0, s1, s2, s3, s4, s5, s6, s7, s8, s9, s10, s11, s12, s13, s14, s15⟩
                  go_simp
                  with_reducible rfl
                rotate_left
                · simp only [Act.put, List.setIfInBounds_toArray, List.set_cons_zero, List.set_cons_succ, i64_w, i32_w]
                  rfl
                refine take_ (i := 21) (N := some 85) (v := ?_) (a' := ?_) #[true, true, true, false, true, true, true, false, true, true, true, false, true, true, true, false, true, true, true, false, true, true, true, false, false, false, false, false, false] rfl rfl (take_ofW HT_.out HW_.out (by kernel_rfl)) (fun _ _ _ h => h) (Or.inl ⟨by rfl, ?_⟩) hHeld ?_ ?_
                rotate_left
                · rintro w' ⟨s0, s1, s2, s3, s4, s5, s6, s7, s8, s9, s10, s11, s12, s13, s14, s15⟩
                  go_simp
                  with_reducible rfl
                rotate_left
                · simp only [Act.put, List.setIfInBounds_toArray, List.set_cons_zero, List.set_cons_succ, i64_w, i32_w]
                  rfl
                refine take_ (i := 23) (N := some 87) (v := ?_) (a' := ?_) #[true, true, true, false, true, true, true, false, true, true, true, false, true, true, true, false, true, true, true, false, true, true, true, true, false, false, false, false, false] rfl rfl (take_ofW HT_.out HW_.out (by kernel_rfl)) (fun _ _ _ h => h) (Or.inl ⟨by rfl, ?_⟩) hHeld ?_ ?_
                rotate_left
                · rintro w' ⟨s0, s1, s2, s3, s4, s5, s6, s7, s8, s9, s10, s11, s12, s13, s14, s15⟩
                  go_simp
                  with_reducible rfl
                rotate_left
                · simp only [Act.put, List.setIfInBounds_toArray, List.set_cons_zero, List.set_cons_succ, i64_w, i32_w]
                  rfl
                refine pure_ (i := 24) (N := some 88) (v := ?_) (a' := ?_) #[true, true, true, false, true, true, true, false, true, true, true, false, true, true, true, false, true, true, true, false, true, true, true, true, true, false, false, false, false] rfl rfl (any_of HT_.out (by kernel_rfl)) (fun _ _ _ h => h) (Or.inl ⟨by rfl, ?_⟩) ?_ ?_
                rotate_left
                · intro w'
                  go_simp
                  with_reducible rfl
                rotate_left
                · simp only [Act.put, List.setIfInBounds_toArray, List.set_cons_zero, List.set_cons_succ, i64_w, i32_w]
                  rfl
                refine one_ (i := 3) (N := some 67) #[true, true, true, true, true, true, true, false, true, true, true, false, true, true, true, false, true, true, true, false, true, true, true, true, true, false, false, false, false] rfl rfl (one_of HT_.out (by kernel_rfl)) (by decide) (fun K hK => ?_)
                refine goes_ Tryd.func58 (by kernel_rfl) rfl #[.agg #[.string P.f0, .int .i64 P.f1, .slice B2 P.f2.length d2, .slice B3 P.f3.length d3, .slice B4 P.f4.length d4, .int .i64 P.f5, .slice B6 P.f6.length d6, .slice B7 P.f7.length d7, .slice B8 P.f8.length d8, .slice (some ad) P.f9.length d9], .slice A7 R.f7.length c7] (by rfl) rfl rfl (by first | rfl | (simp only [List.map_toArray, List.map_cons, List.map_nil]; rfl)) ?_
                refine (guards_any P [.string P.f0, .int .i64 P.f1, .slice B2 P.f2.length d2, .slice B3 P.f3.length d3, .slice B4 P.f4.length d4, .int .i64 P.f5, .slice B6 P.f6.length d6, .slice B7 P.f7.length d7, .slice B8 P.f8.length d8, .slice (some ad) P.f9.length d9] A7 c7 R.f7 _ (k27.K_below HB.out HP.out) (Kd.C_below K7.out HB.out)).mono ?_
                rintro e w' ⟨rfl, hb⟩
                refine ⟨_, rfl, ?_⟩
                have n0_ := Aside0.mk (blk_below BP.out hb)
                have n1_ := Aside0.mk (blk_below BR.out hb)
                have n2_ := Aside0.mk (HB.out.trans (Below.mono hb HB.out.size))
                clear BP BR HB
                have BP := n0_
                have BR := n1_
                have HB := n2_
                clear n0_ n1_ n2_
                clear hb
                refine hK.out _ _ ⟨(blk_cell BR.out 7).trans rfl, (blk_cell BR.out 8).trans rfl, (blk_cell BR.out 9).trans rfl, (blk_cell BR.out 10).trans rfl, (blk_cell BR.out 11).trans rfl, (blk_cell BR.out 12).trans rfl, (blk_cell BP.out 0).trans rfl, (blk_cell BP.out 1).trans rfl, (blk_cell BP.out 2).trans rfl, (blk_cell BP.out 3).trans rfl, (blk_cell BP.out 4).trans rfl, (blk_cell BP.out 5).trans rfl, (blk_cell BP.out 6).trans rfl, (blk_cell BP.out 7).trans rfl, (blk_cell BP.out 8).trans rfl, (blk_cell BP.out 9).trans rfl⟩ (fun hHeld => ?_)
                clear hK K
                refine norm_ (a' := ?_) ?_ ?_
                rotate_left
                · show Act.put _ (some 67) _ = _
                  simp only [Act.put, List.setIfInBounds_toArray, List.set_cons_zero, List.set_cons_succ, i64_w, i32_w]
                  rfl
                refine one_ (i := 7) (N := some 71) #[true, true, true, true, true, true, true, true, true, true, true, false, true, true, true, false, true, true, true, false, true, true, true, true, true, false, false, false, false] rfl rfl (one_of HT_.out (by kernel_rfl)) (by decide) (fun K hK => ?_)
                refine goes_ Tryd.func34 (by kernel_rfl) rfl #[.slice A8 R.f8.length c8, .int .i64 (P.f2.length : Int)] (by rfl) rfl rfl (by first | rfl | (simp only [List.map_toArray, List.map_cons, List.map_nil]; rfl)) ?_
                refine (set_any A8 c8 R.f8 (P.f2.length : Int) _ (Kd.C_below K8.out HB.out)).mono ?_
                rintro e w' ⟨rfl, hb⟩
                refine ⟨_, rfl, ?_⟩
                have n0_ := Aside0.mk (blk_below BP.out hb)
                have n1_ := Aside0.mk (blk_below BR.out hb)
                have n2_ := Aside0.mk (HB.out.trans (Below.mono hb HB.out.size))
                clear BP BR HB
                have BP := n0_
                have BR := n1_
                have HB := n2_
                clear n0_ n1_ n2_
                clear hb
                refine hK.out _ _ ⟨(blk_cell BR.out 7).trans rfl, (blk_cell BR.out 8).trans rfl, (blk_cell BR.out 9).trans rfl, (blk_cell BR.out 10).trans rfl, (blk_cell BR.out 11).trans rfl, (blk_cell BR.out 12).trans rfl, (blk_cell BP.out 0).trans rfl, (blk_cell BP.out 1).trans rfl, (blk_cell BP.out 2).trans rfl, (blk_cell BP.out 3).trans rfl, (blk_cell BP.out 4).trans rfl, (blk_cell BP.out 5).trans rfl, (blk_cell BP.out 6).trans rfl, (blk_cell BP.out 7).trans rfl, (blk_cell BP.out 8).trans rfl, (blk_cell BP.out 9).trans rfl⟩ (fun hHeld => ?_)
                clear hK K
                refine norm_ (a' := ?_) ?_ ?_
                rotate_left
                · show Act.put _ (some 71) _ = _
                  simp only [Act.put, List.setIfInBounds_toArray, List.set_cons_zero, List.set_cons_succ, i64_w, i32_w]
                  rfl
                refine one_ (i := 11) (N := some 75) #[true, true, true, true, true, true, true, true, true, true, true, true, true, true, true, false, true, true, true, false, true, true, true, true, true, false, false, false, false] rfl rfl (one_of HT_.out (by kernel_rfl)) (by decide) (fun K hK => ?_)
                refine goes_ Tryd.func34 (by kernel_rfl) rfl #[.slice A9 R.f9.length c9, .int .i64 (P.f2.length : Int)] (by rfl) rfl rfl (by first | rfl | (simp only [List.map_toArray, List.map_cons, List.map_nil]; rfl)) ?_
                refine (set_any A9 c9 R.f9 (P.f2.length : Int) _ (Kd.C_below K9n.out HB.out)).mono ?_
                rintro e w' ⟨rfl, hb⟩
                refine ⟨_, rfl, ?_⟩
                have n0_ := Aside0.mk (blk_below BP.out hb)
                have n1_ := Aside0.mk (blk_below BR.out hb)
                have n2_ := Aside0.mk (HB.out.trans (Below.mono hb HB.out.size))
                clear BP BR HB
                have BP := n0_
                have BR := n1_
                have HB := n2_
                clear n0_ n1_ n2_
                clear hb
                refine hK.out _ _ ⟨(blk_cell BR.out 7).trans rfl, (blk_cell BR.out 8).trans rfl, (blk_cell BR.out 9).trans rfl, (blk_cell BR.out 10).trans rfl, (blk_cell BR.out 11).trans rfl, (blk_cell BR.out 12).trans rfl, (blk_cell BP.out 0).trans rfl, (blk_cell BP.out 1).trans rfl, (blk_cell BP.out 2).trans rfl, (blk_cell BP.out 3).trans rfl, (blk_cell BP.out 4).trans rfl, (blk_cell BP.out 5).trans rfl, (blk_cell BP.out 6).trans rfl, (blk_cell BP.out 7).trans rfl, (blk_cell BP.out 8).trans rfl, (blk_cell BP.out 9).trans rfl⟩ (fun hHeld => ?_)
                clear hK K
                refine norm_ (a' := ?_) ?_ ?_
                rotate_left
                · show Act.put _ (some 75) _ = _
                  simp only [Act.put, List.setIfInBounds_toArray, List.set_cons_zero, List.set_cons_succ, i64_w, i32_w]
                  rfl
                refine one_ (i := 15) (N := some 79) #[true, true, true, true, true, true, true, true, true, true, true, true, true, true, true, true, true, true, true, false, true, true, true, true, true, false, false, false, false] rfl rfl (one_of HT_.out (by kernel_rfl)) (by decide) (fun K hK => ?_)
                refine goes_ Tryd.func59 (by kernel_rfl) rfl #[.agg #[.string P.f0, .int .i64 P.f1, .slice B2 P.f2.length d2, .slice B3 P.f3.length d3, .slice B4 P.f4.length d4, .int .i64 P.f5, .slice B6 P.f6.length d6, .slice B7 P.f7.length d7, .slice B8 P.f8.length d8, .slice (some ad) P.f9.length d9], .int .i64 R.f10] (by rfl) rfl rfl (by first | rfl | (simp only [List.map_toArray, List.map_cons, List.map_nil]; rfl)) ?_
                refine (value_any P [.string P.f0, .int .i64 P.f1, .slice B2 P.f2.length d2, .slice B3 P.f3.length d3, .slice B4 P.f4.length d4, .int .i64 P.f5, .slice B6 P.f6.length d6, .slice B7 P.f7.length d7, .slice B8 P.f8.length d8, .slice (some ad) P.f9.length d9] R.f10 _ (k27.K_below HB.out HP.out)).mono ?_
                rintro e w' ⟨rfl, hb⟩
                refine ⟨_, rfl, ?_⟩
                have n0_ := Aside0.mk (blk_below BP.out hb)
                have n1_ := Aside0.mk (blk_below BR.out hb)
                have n2_ := Aside0.mk (HB.out.trans (Below.mono hb HB.out.size))
                clear BP BR HB
                have BP := n0_
                have BR := n1_
                have HB := n2_
                clear n0_ n1_ n2_
                clear hb
                refine hK.out _ _ ⟨(blk_cell BR.out 7).trans rfl, (blk_cell BR.out 8).trans rfl, (blk_cell BR.out 9).trans rfl, (blk_cell BR.out 10).trans rfl, (blk_cell BR.out 11).trans rfl, (blk_cell BR.out 12).trans rfl, (blk_cell BP.out 0).trans rfl, (blk_cell BP.out 1).trans rfl, (blk_cell BP.out 2).trans rfl, (blk_cell BP.out 3).trans rfl, (blk_cell BP.out 4).trans rfl, (blk_cell BP.out 5).trans rfl, (blk_cell BP.out 6).trans rfl, (blk_cell BP.out 7).trans rfl, (blk_cell BP.out 8).trans rfl, (blk_cell BP.out 9).trans rfl⟩ (fun hHeld => ?_)
                clear hK K
                refine norm_ (a' := ?_) ?_ ?_
                rotate_left
                · show Act.put _ (some 79) _ = _
                  simp only [Act.put, List.setIfInBounds_toArray, List.set_cons_zero, List.set_cons_succ, i64_w, i32_w]
                  rfl
                refine one_ (i := 19) (N := some 83) #[true, true, true, true, true, true, true, true, true, true, true, true, true, true, true, true, true, true, true, true, true, true, true, true, true, false, false, false, false] rfl rfl (one_of HT_.out (by kernel_rfl)) (by decide) (fun K hK => ?_)
                refine goes_ Tryd.func59 (by kernel_rfl) rfl #[.agg #[.string P.f0, .int .i64 P.f1, .slice B2 P.f2.length d2, .slice B3 P.f3.length d3, .slice B4 P.f4.length d4, .int .i64 P.f5, .slice B6 P.f6.length d6, .slice B7 P.f7.length d7, .slice B8 P.f8.length d8, .slice (some ad) P.f9.length d9], .int .i64 R.f11] (by rfl) rfl rfl (by first | rfl | (simp only [List.map_toArray, List.map_cons, List.map_nil]; rfl)) ?_
                refine (value_any P [.string P.f0, .int .i64 P.f1, .slice B2 P.f2.length d2, .slice B3 P.f3.length d3, .slice B4 P.f4.length d4, .int .i64 P.f5, .slice B6 P.f6.length d6, .slice B7 P.f7.length d7, .slice B8 P.f8.length d8, .slice (some ad) P.f9.length d9] R.f11 _ (k27.K_below HB.out HP.out)).mono ?_
                rintro e w' ⟨rfl, hb⟩
                refine ⟨_, rfl, ?_⟩
                have n0_ := Aside0.mk (blk_below BP.out hb)
                have n1_ := Aside0.mk (blk_below BR.out hb)
                have n2_ := Aside0.mk (HB.out.trans (Below.mono hb HB.out.size))
                clear BP BR HB
                have BP := n0_
                have BR := n1_
                have HB := n2_
                clear n0_ n1_ n2_
                clear hb
                refine hK.out _ _ ⟨(blk_cell BR.out 7).trans rfl, (blk_cell BR.out 8).trans rfl, (blk_cell BR.out 9).trans rfl, (blk_cell BR.out 10).trans rfl, (blk_cell BR.out 11).trans rfl, (blk_cell BR.out 12).trans rfl, (blk_cell BP.out 0).trans rfl, (blk_cell BP.out 1).trans rfl, (blk_cell BP.out 2).trans rfl, (blk_cell BP.out 3).trans rfl, (blk_cell BP.out 4).trans rfl, (blk_cell BP.out 5).trans rfl, (blk_cell BP.out 6).trans rfl, (blk_cell BP.out 7).trans rfl, (blk_cell BP.out 8).trans rfl, (blk_cell BP.out 9).trans rfl⟩ (fun hHeld => ?_)
                clear hK K
                refine norm_ (a' := ?_) ?_ ?_
                rotate_left
                · show Act.put _ (some 83) _ = _
                  simp only [Act.put, List.setIfInBounds_toArray, List.set_cons_zero, List.set_cons_succ, i64_w, i32_w]
                  rfl
                refine one_ (i := 25) (N := some 89) #[true, true, true, true, true, true, true, true, true, true, true, true, true, true, true, true, true, true, true, true, true, true, true, true, true, true, false, false, false] rfl rfl (one_of HT_.out (by kernel_rfl)) (by decide) (fun K hK => ?_)
                refine goes_ Tryd.func34 (by kernel_rfl) rfl #[.slice A12 R.f12.length c12, .int .i64 (P.f3.length : Int)] (by rfl) rfl rfl (by first | rfl | (simp only [List.map_toArray, List.map_cons, List.map_nil]; rfl)) ?_
                refine (set_any A12 c12 R.f12 (P.f3.length : Int) _ (Kd.C_below K12.out HB.out)).mono ?_
                rintro e w' ⟨rfl, hb⟩
                refine ⟨_, rfl, ?_⟩
                have n0_ := Aside0.mk (blk_below BP.out hb)
                have n1_ := Aside0.mk (blk_below BR.out hb)
                have n2_ := Aside0.mk (HB.out.trans (Below.mono hb HB.out.size))
                clear BP BR HB
                have BP := n0_
                have BR := n1_
                have HB := n2_
                clear n0_ n1_ n2_
                clear hb
                refine hK.out _ _ ⟨(blk_cell BR.out 7).trans rfl, (blk_cell BR.out 8).trans rfl, (blk_cell BR.out 9).trans rfl, (blk_cell BR.out 10).trans rfl, (blk_cell BR.out 11).trans rfl, (blk_cell BR.out 12).trans rfl, (blk_cell BP.out 0).trans rfl, (blk_cell BP.out 1).trans rfl, (blk_cell BP.out 2).trans rfl, (blk_cell BP.out 3).trans rfl, (blk_cell BP.out 4).trans rfl, (blk_cell BP.out 5).trans rfl, (blk_cell BP.out 6).trans rfl, (blk_cell BP.out 7).trans rfl, (blk_cell BP.out 8).trans rfl, (blk_cell BP.out 9).trans rfl⟩ (fun hHeld => ?_)
                clear hK K
                refine norm_ (a' := ?_) ?_ ?_
                rotate_left
                · show Act.put _ (some 89) _ = _
                  simp only [Act.put, List.setIfInBounds_toArray, List.set_cons_zero, List.set_cons_succ, i64_w, i32_w]
                  rfl
                refine one_ (i := 26) (N := some 90) #[true, true, true, true, true, true, true, true, true, true, true, true, true, true, true, true, true, true, true, true, true, true, true, true, true, true, true, false, false] rfl rfl (one_of HT_.out (by kernel_rfl)) (by decide) (fun K hK => ?_)
                refine Kd.R_lit_step (Kd.int .i64) _ 36 ?hg (N := 90) ?hd (xs := ([(guardsE P.f3.length R.f7), (setE R.f8 (P.f2.length : Int)), (setE R.f9 (P.f2.length : Int)), (valE P R.f10), (valE P R.f11), (setE R.f12 (P.f3.length : Int))] : List Int)) (inner := [.int .i64 (guardsE P.f3.length R.f7), .int .i64 (setE R.f8 (P.f2.length : Int)), .int .i64 (setE R.f9 (P.f2.length : Int)), .int .i64 (valE P R.f10), .int .i64 (valE P R.f11), .int .i64 (setE R.f12 (P.f3.length : Int))]) (ok := fun _ => True) (okp := fun _ => True) ?hr ?hp (fun _ hk => hk) trivial (Below.refl _ _) (Nat.le_refl _) (by simp) ?_; (case hd => rfl); (case hg => rfl); (case hr => first | (go_simp; done) | (go_simp; rfl)); (case hp => exact (Reps.one (show Kd.M (Kd.int .i64) _ _ _ (guardsE P.f3.length R.f7) [.int .i64 (guardsE P.f3.length R.f7)] from rfl) (Reps.one (show Kd.M (Kd.int .i64) _ _ _ (setE R.f8 (P.f2.length : Int)) [.int .i64 (setE R.f8 (P.f2.length : Int))] from rfl) (Reps.one (show Kd.M (Kd.int .i64) _ _ _ (setE R.f9 (P.f2.length : Int)) [.int .i64 (setE R.f9 (P.f2.length : Int))] from rfl) (Reps.one (show Kd.M (Kd.int .i64) _ _ _ (valE P R.f10) [.int .i64 (valE P R.f10)] from rfl) (Reps.one (show Kd.M (Kd.int .i64) _ _ _ (valE P R.f11) [.int .i64 (valE P R.f11)] from rfl) (Reps.one (show Kd.M (Kd.int .i64) _ _ _ (setE R.f12 (P.f3.length : Int)) [.int .i64 (setE R.f12 (P.f3.length : Int))] from rfl) (Reps.none _ _))))))))
                intro vL wL ho hb hg_ hnew_
                clear hg_ hnew_
                obtain ⟨aL, cL, rfl⟩ := Kd.R_slice ho
                have HL := Aside0.mk (Kd.R_reads' ho)
                clear ho
                have n0_ := Aside0.mk (blk_below BP.out hb)
                have n1_ := Aside0.mk (blk_below BR.out hb)
                have n2_ := Aside0.mk (HB.out.trans (Below.mono hb HB.out.size))
                clear BP BR HB
                have BP := n0_
                have BR := n1_
                have HB := n2_
                clear n0_ n1_ n2_
                clear hb
                refine hK.out _ _ ⟨(blk_cell BR.out 7).trans rfl, (blk_cell BR.out 8).trans rfl, (blk_cell BR.out 9).trans rfl, (blk_cell BR.out 10).trans rfl, (blk_cell BR.out 11).trans rfl, (blk_cell BR.out 12).trans rfl, (blk_cell BP.out 0).trans rfl, (blk_cell BP.out 1).trans rfl, (blk_cell BP.out 2).trans rfl, (blk_cell BP.out 3).trans rfl, (blk_cell BP.out 4).trans rfl, (blk_cell BP.out 5).trans rfl, (blk_cell BP.out 6).trans rfl, (blk_cell BP.out 7).trans rfl, (blk_cell BP.out 8).trans rfl, (blk_cell BP.out 9).trans rfl⟩ (fun hHeld => ?_)
                clear hK K
                refine norm_ (a' := ?_) ?_ ?_
                rotate_left
                · show Act.put _ (some 90) _ = _
                  simp only [Act.put, List.setIfInBounds_toArray, List.set_cons_zero, List.set_cons_succ, i64_w, i32_w]
                  rfl
                refine one_ (i := 27) (N := some 91) #[true, true, true, true, true, true, true, true, true, true, true, true, true, true, true, true, true, true, true, true, true, true, true, true, true, true, true, true, false] rfl rfl (one_of HT_.out (by kernel_rfl)) (by decide) (fun K hK => ?_)
                refine goes_ Tryd.func22 (by kernel_rfl) rfl #[.slice aL 6 cL] (by rfl) rfl rfl (by first | rfl | (simp only [List.map_toArray, List.map_cons, List.map_nil]; rfl)) ?_
                refine (first_any _ _ [(guardsE P.f3.length R.f7), (setE R.f8 (P.f2.length : Int)), (setE R.f9 (P.f2.length : Int)), (valE P R.f10), (valE P R.f11), (setE R.f12 (P.f3.length : Int))] _ HL.out.2.2).mono ?_
                rintro e w' ⟨rfl, rfl⟩
                refine ⟨_, rfl, ?_⟩
                refine hK.out _ _ ⟨(blk_cell BR.out 7).trans rfl, (blk_cell BR.out 8).trans rfl, (blk_cell BR.out 9).trans rfl, (blk_cell BR.out 10).trans rfl, (blk_cell BR.out 11).trans rfl, (blk_cell BR.out 12).trans rfl, (blk_cell BP.out 0).trans rfl, (blk_cell BP.out 1).trans rfl, (blk_cell BP.out 2).trans rfl, (blk_cell BP.out 3).trans rfl, (blk_cell BP.out 4).trans rfl, (blk_cell BP.out 5).trans rfl, (blk_cell BP.out 6).trans rfl, (blk_cell BP.out 7).trans rfl, (blk_cell BP.out 8).trans rfl, (blk_cell BP.out 9).trans rfl⟩ (fun hHeld => ?_)
                clear hK K
                refine norm_ (a' := ?_) ?_ ?_
                rotate_left
                · show Act.put _ (some 91) _ = _
                  simp only [Act.put, List.setIfInBounds_toArray, List.set_cons_zero, List.set_cons_succ, i64_w, i32_w]
                  rfl
                refine pure_ (i := 28) (N := some 4) (v := ?_) (a' := ?_) #[true, true, true, true, true, true, true, true, true, true, true, true, true, true, true, true, true, true, true, true, true, true, true, true, true, true, true, true, true] rfl rfl (any_of HT_.out (by kernel_rfl)) (fun _ _ _ h => h) (Or.inl ⟨by rfl, ?_⟩) ?_ ?_
                rotate_left
                · intro w'
                  go_simp
                  with_reducible rfl
                rotate_left
                · simp only [Act.put, List.setIfInBounds_toArray, List.set_cons_zero, List.set_cons_succ, i64_w, i32_w]
                  rfl
                refine done_ (done_of HT_.out (by kernel_rfl)) ?_
                go_wp2_with fail
                go_ret
                exact ⟨by rw [HRR.out, ← HE.out]; rfl, HB.out⟩
              have e1 : (R.f1 == 1) = false := beq_eq_false_iff_ne.mpr h1
              by_cases h2 : R.f1 = 2
              · have e2 : (R.f1 == 2) = true := beq_iff_eq.mpr h2
                rw [if_neg h1, if_pos h2] at HE
                go_upto_region 15 with (fail)
                clear p1 r1 r13
                have n0_ := Aside0.mk (blk_drew BP.out)
                have n1_ := Aside0.mk (blk_drew BR.out)
                have n2_ := Aside0.mk (below_drew1 HB.out)
                clear BP BR HB
                have BP := n0_
                have BR := n1_
                have HB := n2_
                clear n0_ n1_ n2_
                refine start_ (n := 19) (S := fun w' => w'.cell? ⟨g, 4, none⟩ = some (.int .i64 R.f4) ∧ w'.cell? ⟨g, 5, none⟩ = some (.int .i64 R.f5) ∧ w'.cell? ⟨g, 10, none⟩ = some (.int .i64 R.f10) ∧ w'.cell? ⟨g, 11, none⟩ = some (.int .i64 R.f11) ∧ w'.cell? ⟨w.heap.size, 0, none⟩ = some (.string P.f0) ∧ w'.cell? ⟨w.heap.size, 1, none⟩ = some (.int .i64 P.f1) ∧ w'.cell? ⟨w.heap.size, 2, none⟩ = some (.slice B2 P.f2.length d2) ∧ w'.cell? ⟨w.heap.size, 3, none⟩ = some (.slice B3 P.f3.length d3) ∧ w'.cell? ⟨w.heap.size, 4, none⟩ = some (.slice B4 P.f4.length d4) ∧ w'.cell? ⟨w.heap.size, 5, none⟩ = some (.int .i64 P.f5) ∧ w'.cell? ⟨w.heap.size, 6, none⟩ = some (.slice B6 P.f6.length d6) ∧ w'.cell? ⟨w.heap.size, 7, none⟩ = some (.slice B7 P.f7.length d7) ∧ w'.cell? ⟨w.heap.size, 8, none⟩ = some (.slice B8 P.f8.length d8) ∧ w'.cell? ⟨w.heap.size, 9, none⟩ = some (.slice (some ad) P.f9.length d9)) (ds := []) #[false, false, false, false, false, false, false, false, false, false, false, false, false, false, false, false, false, false, false] (by kernel_rfl) rfl rfl ⟨(blk_cell BR.out 4).trans rfl, (blk_cell BR.out 5).trans rfl, (blk_cell BR.out 10).trans rfl, (blk_cell BR.out 11).trans rfl, (blk_cell BP.out 0).trans rfl, (blk_cell BP.out 1).trans rfl, (blk_cell BP.out 2).trans rfl, (blk_cell BP.out 3).trans rfl, (blk_cell BP.out 4).trans rfl, (blk_cell BP.out 5).trans rfl, (blk_cell BP.out 6).trans rfl, (blk_cell BP.out 7).trans rfl, (blk_cell BP.out 8).trans rfl, (blk_cell BP.out 9).trans rfl⟩ (fun hHeld => ?_)
                refine with_tabW ruleError.tab15 ruleError.bits15 (fun HT_ HW_ => ?_)
                refine pure_ (i := 0) (N := some 94) (v := ?_) (a' := ?_) #[true, false, false, false, false, false, false, false, false, false, false, false, false, false, false, false, false, false, false] rfl rfl (any_of HT_.out (by kernel_rfl)) (fun _ _ _ h => h) (Or.inl ⟨by rfl, ?_⟩) ?_ ?_
                rotate_left
                · intro w'
                  go_simp
                  with_reducible rfl
                rotate_left
                · simp only [Act.put, List.setIfInBounds_toArray, List.set_cons_zero, List.set_cons_succ, i64_w, i32_w]
                  rfl
                refine pure_ (i := 2) (N := some 96) (v := ?_) (a' := ?_) #[true, false, true, false, false, false, false, false, false, false, false, false, false, false, false, false, false, false, false] rfl rfl (any_of HT_.out (by kernel_rfl)) (fun _ _ _ h => h) (Or.inl ⟨by rfl, ?_⟩) ?_ ?_
                rotate_left
                · intro w'
                  go_simp
                  with_reducible rfl
                rotate_left
                · simp only [Act.put, List.setIfInBounds_toArray, List.set_cons_zero, List.set_cons_succ, i64_w, i32_w]
                  rfl
                refine pure_ (i := 4) (N := some 98) (v := ?_) (a' := ?_) #[true, false, true, false, true, false, false, false, false, false, false, false, false, false, false, false, false, false, false] rfl rfl (any_of HT_.out (by kernel_rfl)) (fun _ _ _ h => h) (Or.inl ⟨by rfl, ?_⟩) ?_ ?_
                rotate_left
                · intro w'
                  go_simp
                  with_reducible rfl
                rotate_left
                · simp only [Act.put, List.setIfInBounds_toArray, List.set_cons_zero, List.set_cons_succ, i64_w, i32_w]
                  rfl
                refine pure_ (i := 6) (N := some 100) (v := ?_) (a' := ?_) #[true, false, true, false, true, false, true, false, false, false, false, false, false, false, false, false, false, false, false] rfl rfl (any_of HT_.out (by kernel_rfl)) (fun _ _ _ h => h) (Or.inl ⟨by rfl, ?_⟩) ?_ ?_
                rotate_left
                · intro w'
                  go_simp
                  with_reducible rfl
                rotate_left
                · simp only [Act.put, List.setIfInBounds_toArray, List.set_cons_zero, List.set_cons_succ, i64_w, i32_w]
                  rfl
                refine pure_ (i := 9) (N := some 103) (v := ?_) (a' := ?_) #[true, false, true, false, true, false, true, false, false, true, false, false, false, false, false, false, false, false, false] rfl rfl (any_of HT_.out (by kernel_rfl)) (fun _ _ _ h => h) (Or.inl ⟨by rfl, ?_⟩) ?_ ?_
                rotate_left
                · intro w'
                  go_simp
                  with_reducible rfl
                rotate_left
                · simp only [Act.put, List.setIfInBounds_toArray, List.set_cons_zero, List.set_cons_succ, i64_w, i32_w]
                  rfl
                refine pure_ (i := 13) (N := some 107) (v := ?_) (a' := ?_) #[true, false, true, false, true, false, true, false, false, true, false, false, false, true, false, false, false, false, false] rfl rfl (any_of HT_.out (by kernel_rfl)) (fun _ _ _ h => h) (Or.inl ⟨by rfl, ?_⟩) ?_ ?_
                rotate_left
                · intro w'
                  go_simp
                  with_reducible rfl
                rotate_left
                · simp only [Act.put, List.setIfInBounds_toArray, List.set_cons_zero, List.set_cons_succ, i64_w, i32_w]
                  rfl
                refine take_ (i := 1) (N := some 95) (v := ?_) (a' := ?_) #[true, true, true, false, true, false, true, false, false, true, false, false, false, true, false, false, false, false, false] rfl rfl (take_ofW HT_.out HW_.out (by kernel_rfl)) (fun _ _ _ h => h) (Or.inl ⟨by rfl, ?_⟩) hHeld ?_ ?_
                rotate_left
                · rintro w' ⟨s0, s1, s2, s3, s4, s5, s6, s7, s8, s9, s10, s11, s12, s13⟩
                  go_simp
                  with_reducible rfl
                rotate_left
                · simp only [Act.put, List.setIfInBounds_toArray, List.set_cons_zero, List.set_cons_succ, i64_w, i32_w]
                  rfl
                refine take_ (i := 5) (N := some 99) (v := ?_) (a' := ?_) #[true, true, true, false, true, true, true, false, false, true, false, false, false, true, false, false, false, false, false] rfl rfl (take_ofW HT_.out HW_.out (by kernel_rfl)) (fun _ _ _ h => h) (Or.inl ⟨by rfl, ?_⟩) hHeld ?_ ?_
                rotate_left
                · rintro w' ⟨s0, s1, s2, s3, s4, s5, s6, s7, s8, s9, s10, s11, s12, s13⟩
                  go_simp
                  with_reducible rfl
                rotate_left
                · simp only [Act.put, List.setIfInBounds_toArray, List.set_cons_zero, List.set_cons_succ, i64_w, i32_w]
                  rfl
                refine take_ (i := 8) (N := some 102) (v := ?_) (a' := ?_) #[true, true, true, false, true, true, true, false, true, true, false, false, false, true, false, false, false, false, false] rfl rfl (take_ofW HT_.out HW_.out (by kernel_rfl)) (fun _ _ _ h => h) (Or.inl ⟨by rfl, ?_⟩) hHeld ?_ ?_
                rotate_left
                · rintro w' ⟨s0, s1, s2, s3, s4, s5, s6, s7, s8, s9, s10, s11, s12, s13⟩
                  go_simp
                  with_reducible rfl
                rotate_left
                · simp only [Act.put, List.setIfInBounds_toArray, List.set_cons_zero, List.set_cons_succ, i64_w, i32_w]
                  rfl
                refine take_ (i := 10) (N := some 104) (v := ?_) (a' := ?_) #[true, true, true, false, true, true, true, false, true, true, true, false, false, true, false, false, false, false, false] rfl rfl (take_ofW HT_.out HW_.out (by kernel_rfl)) (fun _ _ _ h => h) (Or.inl ⟨by rfl, ?_⟩) hHeld ?_ ?_
                rotate_left
                · rintro w' ⟨s0, s1, s2, s3, s4, s5, s6, s7, s8, s9, s10, s11, s12, s13⟩
                  go_simp
                  with_reducible rfl
                rotate_left
                · simp only [Act.put, List.setIfInBounds_toArray, List.set_cons_zero, List.set_cons_succ, i64_w, i32_w]
                  rfl
                refine take_ (i := 12) (N := some 106) (v := ?_) (a' := ?_) #[true, true, true, false, true, true, true, false, true, true, true, false, true, true, false, false, false, false, false] rfl rfl (take_ofW HT_.out HW_.out (by kernel_rfl)) (fun _ _ _ h => h) (Or.inl ⟨by rfl, ?_⟩) hHeld ?_ ?_
                rotate_left
                · rintro w' ⟨s0, s1, s2, s3, s4, s5, s6, s7, s8, s9, s10, s11, s12, s13⟩
                  go_simp
                  with_reducible rfl
                rotate_left
                · simp only [Act.put, List.setIfInBounds_toArray, List.set_cons_zero, List.set_cons_succ, i64_w, i32_w]
                  rfl
                refine take_ (i := 14) (N := some 108) (v := ?_) (a' := ?_) #[true, true, true, false, true, true, true, false, true, true, true, false, true, true, true, false, false, false, false] rfl rfl (take_ofW HT_.out HW_.out (by kernel_rfl)) (fun _ _ _ h => h) (Or.inl ⟨by rfl, ?_⟩) hHeld ?_ ?_
                rotate_left
                · rintro w' ⟨s0, s1, s2, s3, s4, s5, s6, s7, s8, s9, s10, s11, s12, s13⟩
                  go_simp
                  with_reducible rfl
                rotate_left
                · simp only [Act.put, List.setIfInBounds_toArray, List.set_cons_zero, List.set_cons_succ, i64_w, i32_w]
                  rfl
                refine one_ (i := 3) (N := some 97) #[true, true, true, true, true, true, true, false, true, true, true, false, true, true, true, false, false, false, false] rfl rfl (one_of HT_.out (by kernel_rfl)) (by decide) (fun K hK => ?_)
                refine goes_ Tryd.func57 (by kernel_rfl) rfl #[.int .i64 R.f4, .int .i64 (P.f2.length : Int)] (by rfl) rfl rfl (by first | rfl | (simp only [List.map_toArray, List.map_cons, List.map_nil]; rfl)) ?_
                refine (idx_any _ _ _).mono ?_
                rintro e w' ⟨rfl, rfl⟩
                refine ⟨_, rfl, ?_⟩
                refine hK.out _ _ ⟨(blk_cell BR.out 4).trans rfl, (blk_cell BR.out 5).trans rfl, (blk_cell BR.out 10).trans rfl, (blk_cell BR.out 11).trans rfl, (blk_cell BP.out 0).trans rfl, (blk_cell BP.out 1).trans rfl, (blk_cell BP.out 2).trans rfl, (blk_cell BP.out 3).trans rfl, (blk_cell BP.out 4).trans rfl, (blk_cell BP.out 5).trans rfl, (blk_cell BP.out 6).trans rfl, (blk_cell BP.out 7).trans rfl, (blk_cell BP.out 8).trans rfl, (blk_cell BP.out 9).trans rfl⟩ (fun hHeld => ?_)
                clear hK K
                refine norm_ (a' := ?_) ?_ ?_
                rotate_left
                · show Act.put _ (some 97) _ = _
                  simp only [Act.put, List.setIfInBounds_toArray, List.set_cons_zero, List.set_cons_succ, i64_w, i32_w]
                  rfl
                refine one_ (i := 7) (N := some 101) #[true, true, true, true, true, true, true, true, true, true, true, false, true, true, true, false, false, false, false] rfl rfl (one_of HT_.out (by kernel_rfl)) (by decide) (fun K hK => ?_)
                refine goes_ Tryd.func57 (by kernel_rfl) rfl #[.int .i64 R.f5, .int .i64 (P.f2.length : Int)] (by rfl) rfl rfl (by first | rfl | (simp only [List.map_toArray, List.map_cons, List.map_nil]; rfl)) ?_
                refine (idx_any _ _ _).mono ?_
                rintro e w' ⟨rfl, rfl⟩
                refine ⟨_, rfl, ?_⟩
                refine hK.out _ _ ⟨(blk_cell BR.out 4).trans rfl, (blk_cell BR.out 5).trans rfl, (blk_cell BR.out 10).trans rfl, (blk_cell BR.out 11).trans rfl, (blk_cell BP.out 0).trans rfl, (blk_cell BP.out 1).trans rfl, (blk_cell BP.out 2).trans rfl, (blk_cell BP.out 3).trans rfl, (blk_cell BP.out 4).trans rfl, (blk_cell BP.out 5).trans rfl, (blk_cell BP.out 6).trans rfl, (blk_cell BP.out 7).trans rfl, (blk_cell BP.out 8).trans rfl, (blk_cell BP.out 9).trans rfl⟩ (fun hHeld => ?_)
                clear hK K
                refine norm_ (a' := ?_) ?_ ?_
                rotate_left
                · show Act.put _ (some 101) _ = _
                  simp only [Act.put, List.setIfInBounds_toArray, List.set_cons_zero, List.set_cons_succ, i64_w, i32_w]
                  rfl
                refine one_ (i := 11) (N := some 105) #[true, true, true, true, true, true, true, true, true, true, true, true, true, true, true, false, false, false, false] rfl rfl (one_of HT_.out (by kernel_rfl)) (by decide) (fun K hK => ?_)
                refine goes_ Tryd.func59 (by kernel_rfl) rfl #[.agg #[.string P.f0, .int .i64 P.f1, .slice B2 P.f2.length d2, .slice B3 P.f3.length d3, .slice B4 P.f4.length d4, .int .i64 P.f5, .slice B6 P.f6.length d6, .slice B7 P.f7.length d7, .slice B8 P.f8.length d8, .slice (some ad) P.f9.length d9], .int .i64 R.f10] (by rfl) rfl rfl (by first | rfl | (simp only [List.map_toArray, List.map_cons, List.map_nil]; rfl)) ?_
                refine (value_any P [.string P.f0, .int .i64 P.f1, .slice B2 P.f2.length d2, .slice B3 P.f3.length d3, .slice B4 P.f4.length d4, .int .i64 P.f5, .slice B6 P.f6.length d6, .slice B7 P.f7.length d7, .slice B8 P.f8.length d8, .slice (some ad) P.f9.length d9] R.f10 _ (k27.K_below HB.out HP.out)).mono ?_
                rintro e w' ⟨rfl, hb⟩
                refine ⟨_, rfl, ?_⟩
                have n0_ := Aside0.mk (blk_below BP.out hb)
                have n1_ := Aside0.mk (blk_below BR.out hb)
                have n2_ := Aside0.mk (HB.out.trans (Below.mono hb HB.out.size))
                clear BP BR HB
                have BP := n0_
                have BR := n1_
                have HB := n2_
                clear n0_ n1_ n2_
                clear hb
                refine hK.out _ _ ⟨(blk_cell BR.out 4).trans rfl, (blk_cell BR.out 5).trans rfl, (blk_cell BR.out 10).trans rfl, (blk_cell BR.out 11).trans rfl, (blk_cell BP.out 0).trans rfl, (blk_cell BP.out 1).trans rfl, (blk_cell BP.out 2).trans rfl, (blk_cell BP.out 3).trans rfl, (blk_cell BP.out 4).trans rfl, (blk_cell BP.out 5).trans rfl, (blk_cell BP.out 6).trans rfl, (blk_cell BP.out 7).trans rfl, (blk_cell BP.out 8).trans rfl, (blk_cell BP.out 9).trans rfl⟩ (fun hHeld => ?_)
                clear hK K
                refine norm_ (a' := ?_) ?_ ?_
                rotate_left
                · show Act.put _ (some 105) _ = _
                  simp only [Act.put, List.setIfInBounds_toArray, List.set_cons_zero, List.set_cons_succ, i64_w, i32_w]
                  rfl
                refine one_ (i := 15) (N := some 109) #[true, true, true, true, true, true, true, true, true, true, true, true, true, true, true, true, false, false, false] rfl rfl (one_of HT_.out (by kernel_rfl)) (by decide) (fun K hK => ?_)
                refine goes_ Tryd.func59 (by kernel_rfl) rfl #[.agg #[.string P.f0, .int .i64 P.f1, .slice B2 P.f2.length d2, .slice B3 P.f3.length d3, .slice B4 P.f4.length d4, .int .i64 P.f5, .slice B6 P.f6.length d6, .slice B7 P.f7.length d7, .slice B8 P.f8.length d8, .slice (some ad) P.f9.length d9], .int .i64 R.f11] (by rfl) rfl rfl (by first | rfl | (simp only [List.map_toArray, List.map_cons, List.map_nil]; rfl)) ?_
                refine (value_any P [.string P.f0, .int .i64 P.f1, .slice B2 P.f2.length d2, .slice B3 P.f3.length d3, .slice B4 P.f4.length d4, .int .i64 P.f5, .slice B6 P.f6.length d6, .slice B7 P.f7.length d7, .slice B8 P.f8.length d8, .slice (some ad) P.f9.length d9] R.f11 _ (k27.K_below HB.out HP.out)).mono ?_
                rintro e w' ⟨rfl, hb⟩
                refine ⟨_, rfl, ?_⟩
                have n0_ := Aside0.mk (blk_below BP.out hb)
                have n1_ := Aside0.mk (blk_below BR.out hb)
                have n2_ := Aside0.mk (HB.out.trans (Below.mono hb HB.out.size))
                clear BP BR HB
                have BP := n0_
                have BR := n1_
                have HB := n2_
                clear n0_ n1_ n2_
                clear hb
                refine hK.out _ _ ⟨(blk_cell BR.out 4).trans rfl, (blk_cell BR.out 5).trans rfl, (blk_cell BR.out 10).trans rfl, (blk_cell BR.out 11).trans rfl, (blk_cell BP.out 0).trans rfl, (blk_cell BP.out 1).trans rfl, (blk_cell BP.out 2).trans rfl, (blk_cell BP.out 3).trans rfl, (blk_cell BP.out 4).trans rfl, (blk_cell BP.out 5).trans rfl, (blk_cell BP.out 6).trans rfl, (blk_cell BP.out 7).trans rfl, (blk_cell BP.out 8).trans rfl, (blk_cell BP.out 9).trans rfl⟩ (fun hHeld => ?_)
                clear hK K
                refine norm_ (a' := ?_) ?_ ?_
                rotate_left
                · show Act.put _ (some 109) _ = _
                  simp only [Act.put, List.setIfInBounds_toArray, List.set_cons_zero, List.set_cons_succ, i64_w, i32_w]
                  rfl
                refine one_ (i := 16) (N := some 110) #[true, true, true, true, true, true, true, true, true, true, true, true, true, true, true, true, true, false, false] rfl rfl (one_of HT_.out (by kernel_rfl)) (by decide) (fun K hK => ?_)
                refine Kd.R_lit_step (Kd.int .i64) _ 36 ?hg (N := 110) ?hd (xs := ([(idxE R.f4 (P.f2.length : Int)), (idxE R.f5 (P.f2.length : Int)), (valE P R.f10), (valE P R.f11)] : List Int)) (inner := [.int .i64 (idxE R.f4 (P.f2.length : Int)), .int .i64 (idxE R.f5 (P.f2.length : Int)), .int .i64 (valE P R.f10), .int .i64 (valE P R.f11)]) (ok := fun _ => True) (okp := fun _ => True) ?hr ?hp (fun _ hk => hk) trivial (Below.refl _ _) (Nat.le_refl _) (by simp) ?_; (case hd => rfl); (case hg => rfl); (case hr => first | (go_simp; done) | (go_simp; rfl)); (case hp => exact (Reps.one (show Kd.M (Kd.int .i64) _ _ _ (idxE R.f4 (P.f2.length : Int)) [.int .i64 (idxE R.f4 (P.f2.length : Int))] from rfl) (Reps.one (show Kd.M (Kd.int .i64) _ _ _ (idxE R.f5 (P.f2.length : Int)) [.int .i64 (idxE R.f5 (P.f2.length : Int))] from rfl) (Reps.one (show Kd.M (Kd.int .i64) _ _ _ (valE P R.f10) [.int .i64 (valE P R.f10)] from rfl) (Reps.one (show Kd.M (Kd.int .i64) _ _ _ (valE P R.f11) [.int .i64 (valE P R.f11)] from rfl) (Reps.none _ _))))))
                intro vL wL ho hb hg_ hnew_
                clear hg_ hnew_
                obtain ⟨aL, cL, rfl⟩ := Kd.R_slice ho
                have HL := Aside0.mk (Kd.R_reads' ho)
                clear ho
                have n0_ := Aside0.mk (blk_below BP.out hb)
                have n1_ := Aside0.mk (blk_below BR.out hb)
                have n2_ := Aside0.mk (HB.out.trans (Below.mono hb HB.out.size))
                clear BP BR HB
                have BP := n0_
                have BR := n1_
                have HB := n2_
                clear n0_ n1_ n2_
                clear hb
                refine hK.out _ _ ⟨(blk_cell BR.out 4).trans rfl, (blk_cell BR.out 5).trans rfl, (blk_cell BR.out 10).trans rfl, (blk_cell BR.out 11).trans rfl, (blk_cell BP.out 0).trans rfl, (blk_cell BP.out 1).trans rfl, (blk_cell BP.out 2).trans rfl, (blk_cell BP.out 3).trans rfl, (blk_cell BP.out 4).trans rfl, (blk_cell BP.out 5).trans rfl, (blk_cell BP.out 6).trans rfl, (blk_cell BP.out 7).trans rfl, (blk_cell BP.out 8).trans rfl, (blk_cell BP.out 9).trans rfl⟩ (fun hHeld => ?_)
                clear hK K
                refine norm_ (a' := ?_) ?_ ?_
                rotate_left
                · show Act.put _ (some 110) _ = _
                  simp only [Act.put, List.setIfInBounds_toArray, List.set_cons_zero, List.set_cons_succ, i64_w, i32_w]
                  rfl
                refine one_ (i := 17) (N := some 111) #[true, true, true, true, true, true, true, true, true, true, true, true, true, true, true, true, true, true, false] rfl rfl (one_of HT_.out (by kernel_rfl)) (by decide) (fun K hK => ?_)
                refine goes_ Tryd.func22 (by kernel_rfl) rfl #[.slice aL 4 cL] (by rfl) rfl rfl (by first | rfl | (simp only [List.map_toArray, List.map_cons, List.map_nil]; rfl)) ?_
                refine (first_any _ _ [(idxE R.f4 (P.f2.length : Int)), (idxE R.f5 (P.f2.length : Int)), (valE P R.f10), (valE P R.f11)] _ HL.out.2.2).mono ?_
                rintro e w' ⟨rfl, rfl⟩
                refine ⟨_, rfl, ?_⟩
                refine hK.out _ _ ⟨(blk_cell BR.out 4).trans rfl, (blk_cell BR.out 5).trans rfl, (blk_cell BR.out 10).trans rfl, (blk_cell BR.out 11).trans rfl, (blk_cell BP.out 0).trans rfl, (blk_cell BP.out 1).trans rfl, (blk_cell BP.out 2).trans rfl, (blk_cell BP.out 3).trans rfl, (blk_cell BP.out 4).trans rfl, (blk_cell BP.out 5).trans rfl, (blk_cell BP.out 6).trans rfl, (blk_cell BP.out 7).trans rfl, (blk_cell BP.out 8).trans rfl, (blk_cell BP.out 9).trans rfl⟩ (fun hHeld => ?_)
                clear hK K
                refine norm_ (a' := ?_) ?_ ?_
                rotate_left
                · show Act.put _ (some 111) _ = _
                  simp only [Act.put, List.setIfInBounds_toArray, List.set_cons_zero, List.set_cons_succ, i64_w, i32_w]
                  rfl
                refine pure_ (i := 18) (N := some 4) (v := ?_) (a' := ?_) #[true, true, true, true, true, true, true, true, true, true, true, true, true, true, true, true, true, true, true] rfl rfl (any_of HT_.out (by kernel_rfl)) (fun _ _ _ h => h) (Or.inl ⟨by rfl, ?_⟩) ?_ ?_
                rotate_left
                · intro w'
                  go_simp
                  with_reducible rfl
                rotate_left
                · simp only [Act.put, List.setIfInBounds_toArray, List.set_cons_zero, List.set_cons_succ, i64_w, i32_w]
                  rfl
                refine done_ (done_of HT_.out (by kernel_rfl)) ?_
                go_wp2_with fail
                go_ret
                exact ⟨by rw [HRR.out, ← HE.out]; rfl, HB.out⟩
              have e2 : (R.f1 == 2) = false := beq_eq_false_iff_ne.mpr h2
              by_cases h3 : R.f1 = 3
              · have e3 : (R.f1 == 3) = true := beq_iff_eq.mpr h3
                rw [if_neg h1, if_neg h2, if_pos h3] at HE
                go_upto_region 17 with (fail)
                clear p1 r1 r13
                have n0_ := Aside0.mk (blk_drew BP.out)
                have n1_ := Aside0.mk (blk_drew BR.out)
                have n2_ := Aside0.mk (below_drew1 HB.out)
                clear BP BR HB
                have BP := n0_
                have BR := n1_
                have HB := n2_
                clear n0_ n1_ n2_
                refine start_ (n := 15) (S := fun w' => w'.cell? ⟨g, 6, none⟩ = some (.slice A6 R.f6.length c6) ∧ w'.cell? ⟨g, 10, none⟩ = some (.int .i64 R.f10) ∧ w'.cell? ⟨g, 11, none⟩ = some (.int .i64 R.f11) ∧ w'.cell? ⟨w.heap.size, 0, none⟩ = some (.string P.f0) ∧ w'.cell? ⟨w.heap.size, 1, none⟩ = some (.int .i64 P.f1) ∧ w'.cell? ⟨w.heap.size, 2, none⟩ = some (.slice B2 P.f2.length d2) ∧ w'.cell? ⟨w.heap.size, 3, none⟩ = some (.slice B3 P.f3.length d3) ∧ w'.cell? ⟨w.heap.size, 4, none⟩ = some (.slice B4 P.f4.length d4) ∧ w'.cell? ⟨w.heap.size, 5, none⟩ = some (.int .i64 P.f5) ∧ w'.cell? ⟨w.heap.size, 6, none⟩ = some (.slice B6 P.f6.length d6) ∧ w'.cell? ⟨w.heap.size, 7, none⟩ = some (.slice B7 P.f7.length d7) ∧ w'.cell? ⟨w.heap.size, 8, none⟩ = some (.slice B8 P.f8.length d8) ∧ w'.cell? ⟨w.heap.size, 9, none⟩ = some (.slice (some ad) P.f9.length d9)) (ds := []) #[false, false, false, false, false, false, false, false, false, false, false, false, false, false, false] (by kernel_rfl) rfl rfl ⟨(blk_cell BR.out 6).trans rfl, (blk_cell BR.out 10).trans rfl, (blk_cell BR.out 11).trans rfl, (blk_cell BP.out 0).trans rfl, (blk_cell BP.out 1).trans rfl, (blk_cell BP.out 2).trans rfl, (blk_cell BP.out 3).trans rfl, (blk_cell BP.out 4).trans rfl, (blk_cell BP.out 5).trans rfl, (blk_cell BP.out 6).trans rfl, (blk_cell BP.out 7).trans rfl, (blk_cell BP.out 8).trans rfl, (blk_cell BP.out 9).trans rfl⟩ (fun hHeld => ?_)
                refine with_tabW ruleError.tab17 ruleError.bits17 (fun HT_ HW_ => ?_)
                refine pure_ (i := 0) (N := some 114) (v := ?_) (a' := ?_) #[true, false, false, false, false, false, false, false, false, false, false, false, false, false, false] rfl rfl (any_of HT_.out (by kernel_rfl)) (fun _ _ _ h => h) (Or.inl ⟨by rfl, ?_⟩) ?_ ?_
                rotate_left
                · intro w'
                  go_simp
                  with_reducible rfl
                rotate_left
                · simp only [Act.put, List.setIfInBounds_toArray, List.set_cons_zero, List.set_cons_succ, i64_w, i32_w]
                  rfl
                refine pure_ (i := 2) (N := some 116) (v := ?_) (a' := ?_) #[true, false, true, false, false, false, false, false, false, false, false, false, false, false, false] rfl rfl (any_of HT_.out (by kernel_rfl)) (fun _ _ _ h => h) (Or.inl ⟨by rfl, ?_⟩) ?_ ?_
                rotate_left
                · intro w'
                  go_simp
                  with_reducible rfl
                rotate_left
                · simp only [Act.put, List.setIfInBounds_toArray, List.set_cons_zero, List.set_cons_succ, i64_w, i32_w]
                  rfl
                refine pure_ (i := 5) (N := some 119) (v := ?_) (a' := ?_) #[true, false, true, false, false, true, false, false, false, false, false, false, false, false, false] rfl rfl (any_of HT_.out (by kernel_rfl)) (fun _ _ _ h => h) (Or.inl ⟨by rfl, ?_⟩) ?_ ?_
                rotate_left
                · intro w'
                  go_simp
                  with_reducible rfl
                rotate_left
                · simp only [Act.put, List.setIfInBounds_toArray, List.set_cons_zero, List.set_cons_succ, i64_w, i32_w]
                  rfl
                refine pure_ (i := 9) (N := some 123) (v := ?_) (a' := ?_) #[true, false, true, false, false, true, false, false, false, true, false, false, false, false, false] rfl rfl (any_of HT_.out (by kernel_rfl)) (fun _ _ _ h => h) (Or.inl ⟨by rfl, ?_⟩) ?_ ?_
                rotate_left
                · intro w'
                  go_simp
                  with_reducible rfl
                rotate_left
                · simp only [Act.put, List.setIfInBounds_toArray, List.set_cons_zero, List.set_cons_succ, i64_w, i32_w]
                  rfl
                refine take_ (i := 1) (N := some 115) (v := ?_) (a' := ?_) #[true, true, true, false, false, true, false, false, false, true, false, false, false, false, false] rfl rfl (take_ofW HT_.out HW_.out (by kernel_rfl)) (fun _ _ _ h => h) (Or.inl ⟨by rfl, ?_⟩) hHeld ?_ ?_
                rotate_left
                · rintro w' ⟨s0, s1, s2, s3, s4, s5, s6, s7, s8, s9, s10, s11, s12⟩
                  go_simp
                  with_reducible rfl
                rotate_left
                · simp only [Act.put, List.setIfInBounds_toArray, List.set_cons_zero, List.set_cons_succ, i64_w, i32_w]
                  rfl
                refine take_ (i := 4) (N := some 118) (v := ?_) (a' := ?_) #[true, true, true, false, true, true, false, false, false, true, false, false, false, false, false] rfl rfl (take_ofW HT_.out HW_.out (by kernel_rfl)) (fun _ _ _ h => h) (Or.inl ⟨by rfl, ?_⟩) hHeld ?_ ?_
                rotate_left
                · rintro w' ⟨s0, s1, s2, s3, s4, s5, s6, s7, s8, s9, s10, s11, s12⟩
                  go_simp
                  with_reducible rfl
                rotate_left
                · simp only [Act.put, List.setIfInBounds_toArray, List.set_cons_zero, List.set_cons_succ, i64_w, i32_w]
                  rfl
                refine take_ (i := 6) (N := some 120) (v := ?_) (a' := ?_) #[true, true, true, false, true, true, true, false, false, true, false, false, false, false, false] rfl rfl (take_ofW HT_.out HW_.out (by kernel_rfl)) (fun _ _ _ h => h) (Or.inl ⟨by rfl, ?_⟩) hHeld ?_ ?_
                rotate_left
                · rintro w' ⟨s0, s1, s2, s3, s4, s5, s6, s7, s8, s9, s10, s11, s12⟩
                  go_simp
                  with_reducible rfl
                rotate_left
                · simp only [Act.put, List.setIfInBounds_toArray, List.set_cons_zero, List.set_cons_succ, i64_w, i32_w]
                  rfl
                refine take_ (i := 8) (N := some 122) (v := ?_) (a' := ?_) #[true, true, true, false, true, true, true, false, true, true, false, false, false, false, false] rfl rfl (take_ofW HT_.out HW_.out (by kernel_rfl)) (fun _ _ _ h => h) (Or.inl ⟨by rfl, ?_⟩) hHeld ?_ ?_
                rotate_left
                · rintro w' ⟨s0, s1, s2, s3, s4, s5, s6, s7, s8, s9, s10, s11, s12⟩
                  go_simp
                  with_reducible rfl
                rotate_left
                · simp only [Act.put, List.setIfInBounds_toArray, List.set_cons_zero, List.set_cons_succ, i64_w, i32_w]
                  rfl
                refine take_ (i := 10) (N := some 124) (v := ?_) (a' := ?_) #[true, true, true, false, true, true, true, false, true, true, true, false, false, false, false] rfl rfl (take_ofW HT_.out HW_.out (by kernel_rfl)) (fun _ _ _ h => h) (Or.inl ⟨by rfl, ?_⟩) hHeld ?_ ?_
                rotate_left
                · rintro w' ⟨s0, s1, s2, s3, s4, s5, s6, s7, s8, s9, s10, s11, s12⟩
                  go_simp
                  with_reducible rfl
                rotate_left
                · simp only [Act.put, List.setIfInBounds_toArray, List.set_cons_zero, List.set_cons_succ, i64_w, i32_w]
                  rfl
                refine one_ (i := 3) (N := some 117) #[true, true, true, true, true, true, true, false, true, true, true, false, false, false, false] rfl rfl (one_of HT_.out (by kernel_rfl)) (by decide) (fun K hK => ?_)
                refine goes_ Tryd.func60 (by kernel_rfl) rfl #[.slice A6 R.f6.length c6, .int .i64 (P.f2.length : Int)] (by rfl) rfl rfl (by first | rfl | (simp only [List.map_toArray, List.map_cons, List.map_nil]; rfl)) ?_
                refine (resp_any A6 c6 R.f6 (P.f2.length : Int) _ (Kd.C_below K6.out HB.out)).mono ?_
                rintro e w' ⟨rfl, rfl⟩
                refine ⟨_, rfl, ?_⟩
                refine hK.out _ _ ⟨(blk_cell BR.out 6).trans rfl, (blk_cell BR.out 10).trans rfl, (blk_cell BR.out 11).trans rfl, (blk_cell BP.out 0).trans rfl, (blk_cell BP.out 1).trans rfl, (blk_cell BP.out 2).trans rfl, (blk_cell BP.out 3).trans rfl, (blk_cell BP.out 4).trans rfl, (blk_cell BP.out 5).trans rfl, (blk_cell BP.out 6).trans rfl, (blk_cell BP.out 7).trans rfl, (blk_cell BP.out 8).trans rfl, (blk_cell BP.out 9).trans rfl⟩ (fun hHeld => ?_)
                clear hK K
                refine norm_ (a' := ?_) ?_ ?_
                rotate_left
                · show Act.put _ (some 117) _ = _
                  simp only [Act.put, List.setIfInBounds_toArray, List.set_cons_zero, List.set_cons_succ, i64_w, i32_w]
                  rfl
                refine one_ (i := 7) (N := some 121) #[true, true, true, true, true, true, true, true, true, true, true, false, false, false, false] rfl rfl (one_of HT_.out (by kernel_rfl)) (by decide) (fun K hK => ?_)
                refine goes_ Tryd.func59 (by kernel_rfl) rfl #[.agg #[.string P.f0, .int .i64 P.f1, .slice B2 P.f2.length d2, .slice B3 P.f3.length d3, .slice B4 P.f4.length d4, .int .i64 P.f5, .slice B6 P.f6.length d6, .slice B7 P.f7.length d7, .slice B8 P.f8.length d8, .slice (some ad) P.f9.length d9], .int .i64 R.f10] (by rfl) rfl rfl (by first | rfl | (simp only [List.map_toArray, List.map_cons, List.map_nil]; rfl)) ?_
                refine (value_any P [.string P.f0, .int .i64 P.f1, .slice B2 P.f2.length d2, .slice B3 P.f3.length d3, .slice B4 P.f4.length d4, .int .i64 P.f5, .slice B6 P.f6.length d6, .slice B7 P.f7.length d7, .slice B8 P.f8.length d8, .slice (some ad) P.f9.length d9] R.f10 _ (k27.K_below HB.out HP.out)).mono ?_
                rintro e w' ⟨rfl, hb⟩
                refine ⟨_, rfl, ?_⟩
                have n0_ := Aside0.mk (blk_below BP.out hb)
                have n1_ := Aside0.mk (blk_below BR.out hb)
                have n2_ := Aside0.mk (HB.out.trans (Below.mono hb HB.out.size))
                clear BP BR HB
                have BP := n0_
                have BR := n1_
                have HB := n2_
                clear n0_ n1_ n2_
                clear hb
                refine hK.out _ _ ⟨(blk_cell BR.out 6).trans rfl, (blk_cell BR.out 10).trans rfl, (blk_cell BR.out 11).trans rfl, (blk_cell BP.out 0).trans rfl, (blk_cell BP.out 1).trans rfl, (blk_cell BP.out 2).trans rfl, (blk_cell BP.out 3).trans rfl, (blk_cell BP.out 4).trans rfl, (blk_cell BP.out 5).trans rfl, (blk_cell BP.out 6).trans rfl, (blk_cell BP.out 7).trans rfl, (blk_cell BP.out 8).trans rfl, (blk_cell BP.out 9).trans rfl⟩ (fun hHeld => ?_)
                clear hK K
                refine norm_ (a' := ?_) ?_ ?_
                rotate_left
                · show Act.put _ (some 121) _ = _
                  simp only [Act.put, List.setIfInBounds_toArray, List.set_cons_zero, List.set_cons_succ, i64_w, i32_w]
                  rfl
                refine one_ (i := 11) (N := some 125) #[true, true, true, true, true, true, true, true, true, true, true, true, false, false, false] rfl rfl (one_of HT_.out (by kernel_rfl)) (by decide) (fun K hK => ?_)
                refine goes_ Tryd.func59 (by kernel_rfl) rfl #[.agg #[.string P.f0, .int .i64 P.f1, .slice B2 P.f2.length d2, .slice B3 P.f3.length d3, .slice B4 P.f4.length d4, .int .i64 P.f5, .slice B6 P.f6.length d6, .slice B7 P.f7.length d7, .slice B8 P.f8.length d8, .slice (some ad) P.f9.length d9], .int .i64 R.f11] (by rfl) rfl rfl (by first | rfl | (simp only [List.map_toArray, List.map_cons, List.map_nil]; rfl)) ?_
                refine (value_any P [.string P.f0, .int .i64 P.f1, .slice B2 P.f2.length d2, .slice B3 P.f3.length d3, .slice B4 P.f4.length d4, .int .i64 P.f5, .slice B6 P.f6.length d6, .slice B7 P.f7.length d7, .slice B8 P.f8.length d8, .slice (some ad) P.f9.length d9] R.f11 _ (k27.K_below HB.out HP.out)).mono ?_
                rintro e w' ⟨rfl, hb⟩
                refine ⟨_, rfl, ?_⟩
                have n0_ := Aside0.mk (blk_below BP.out hb)
                have n1_ := Aside0.mk (blk_below BR.out hb)
                have n2_ := Aside0.mk (HB.out.trans (Below.mono hb HB.out.size))
                clear BP BR HB
                have BP := n0_
                have BR := n1_
                have HB := n2_
                clear n0_ n1_ n2_
                clear hb
                refine hK.out _ _ ⟨(blk_cell BR.out 6).trans rfl, (blk_cell BR.out 10).trans rfl, (blk_cell BR.out 11).trans rfl, (blk_cell BP.out 0).trans rfl, (blk_cell BP.out 1).trans rfl, (blk_cell BP.out 2).trans rfl, (blk_cell BP.out 3).trans rfl, (blk_cell BP.out 4).trans rfl, (blk_cell BP.out 5).trans rfl, (blk_cell BP.out 6).trans rfl, (blk_cell BP.out 7).trans rfl, (blk_cell BP.out 8).trans rfl, (blk_cell BP.out 9).trans rfl⟩ (fun hHeld => ?_)
                clear hK K
                refine norm_ (a' := ?_) ?_ ?_
                rotate_left
                · show Act.put _ (some 125) _ = _
                  simp only [Act.put, List.setIfInBounds_toArray, List.set_cons_zero, List.set_cons_succ, i64_w, i32_w]
                  rfl
                refine one_ (i := 12) (N := some 126) #[true, true, true, true, true, true, true, true, true, true, true, true, true, false, false] rfl rfl (one_of HT_.out (by kernel_rfl)) (by decide) (fun K hK => ?_)
                refine Kd.R_lit_step (Kd.int .i64) _ 36 ?hg (N := 126) ?hd (xs := ([(respE R.f6 (P.f2.length : Int)), (valE P R.f10), (valE P R.f11)] : List Int)) (inner := [.int .i64 (respE R.f6 (P.f2.length : Int)), .int .i64 (valE P R.f10), .int .i64 (valE P R.f11)]) (ok := fun _ => True) (okp := fun _ => True) ?hr ?hp (fun _ hk => hk) trivial (Below.refl _ _) (Nat.le_refl _) (by simp) ?_; (case hd => rfl); (case hg => rfl); (case hr => first | (go_simp; done) | (go_simp; rfl)); (case hp => exact (Reps.one (show Kd.M (Kd.int .i64) _ _ _ (respE R.f6 (P.f2.length : Int)) [.int .i64 (respE R.f6 (P.f2.length : Int))] from rfl) (Reps.one (show Kd.M (Kd.int .i64) _ _ _ (valE P R.f10) [.int .i64 (valE P R.f10)] from rfl) (Reps.one (show Kd.M (Kd.int .i64) _ _ _ (valE P R.f11) [.int .i64 (valE P R.f11)] from rfl) (Reps.none _ _)))))
                intro vL wL ho hb hg_ hnew_
                clear hg_ hnew_
                obtain ⟨aL, cL, rfl⟩ := Kd.R_slice ho
                have HL := Aside0.mk (Kd.R_reads' ho)
                clear ho
                have n0_ := Aside0.mk (blk_below BP.out hb)
                have n1_ := Aside0.mk (blk_below BR.out hb)
                have n2_ := Aside0.mk (HB.out.trans (Below.mono hb HB.out.size))
                clear BP BR HB
                have BP := n0_
                have BR := n1_
                have HB := n2_
                clear n0_ n1_ n2_
                clear hb
                refine hK.out _ _ ⟨(blk_cell BR.out 6).trans rfl, (blk_cell BR.out 10).trans rfl, (blk_cell BR.out 11).trans rfl, (blk_cell BP.out 0).trans rfl, (blk_cell BP.out 1).trans rfl, (blk_cell BP.out 2).trans rfl, (blk_cell BP.out 3).trans rfl, (blk_cell BP.out 4).trans rfl, (blk_cell BP.out 5).trans rfl, (blk_cell BP.out 6).trans rfl, (blk_cell BP.out 7).trans rfl, (blk_cell BP.out 8).trans rfl, (blk_cell BP.out 9).trans rfl⟩ (fun hHeld => ?_)
                clear hK K
                refine norm_ (a' := ?_) ?_ ?_
                rotate_left
                · show Act.put _ (some 126) _ = _
                  simp only [Act.put, List.setIfInBounds_toArray, List.set_cons_zero, List.set_cons_succ, i64_w, i32_w]
                  rfl
                refine one_ (i := 13) (N := some 127) #[true, true, true, true, true, true, true, true, true, true, true, true, true, true, false] rfl rfl (one_of HT_.out (by kernel_rfl)) (by decide) (fun K hK => ?_)
                refine goes_ Tryd.func22 (by kernel_rfl) rfl #[.slice aL 3 cL] (by rfl) rfl rfl (by first | rfl | (simp only [List.map_toArray, List.map_cons, List.map_nil]; rfl)) ?_
                refine (first_any _ _ [(respE R.f6 (P.f2.length : Int)), (valE P R.f10), (valE P R.f11)] _ HL.out.2.2).mono ?_
                rintro e w' ⟨rfl, rfl⟩
                refine ⟨_, rfl, ?_⟩
                refine hK.out _ _ ⟨(blk_cell BR.out 6).trans rfl, (blk_cell BR.out 10).trans rfl, (blk_cell BR.out 11).trans rfl, (blk_cell BP.out 0).trans rfl, (blk_cell BP.out 1).trans rfl, (blk_cell BP.out 2).trans rfl, (blk_cell BP.out 3).trans rfl, (blk_cell BP.out 4).trans rfl, (blk_cell BP.out 5).trans rfl, (blk_cell BP.out 6).trans rfl, (blk_cell BP.out 7).trans rfl, (blk_cell BP.out 8).trans rfl, (blk_cell BP.out 9).trans rfl⟩ (fun hHeld => ?_)
                clear hK K
                refine norm_ (a' := ?_) ?_ ?_
                rotate_left
                · show Act.put _ (some 127) _ = _
                  simp only [Act.put, List.setIfInBounds_toArray, List.set_cons_zero, List.set_cons_succ, i64_w, i32_w]
                  rfl
                refine pure_ (i := 14) (N := some 4) (v := ?_) (a' := ?_) #[true, true, true, true, true, true, true, true, true, true, true, true, true, true, true] rfl rfl (any_of HT_.out (by kernel_rfl)) (fun _ _ _ h => h) (Or.inl ⟨by rfl, ?_⟩) ?_ ?_
                rotate_left
                · intro w'
                  go_simp
                  with_reducible rfl
                rotate_left
                · simp only [Act.put, List.setIfInBounds_toArray, List.set_cons_zero, List.set_cons_succ, i64_w, i32_w]
                  rfl
                refine done_ (done_of HT_.out (by kernel_rfl)) ?_
                go_wp2_with fail
                go_ret
                exact ⟨by rw [HRR.out, ← HE.out]; rfl, HB.out⟩
              have e3 : (R.f1 == 3) = false := beq_eq_false_iff_ne.mpr h3
              by_cases h4 : R.f1 = 4
              · have e4 : (R.f1 == 4) = true := beq_iff_eq.mpr h4
                rw [if_neg h1, if_neg h2, if_neg h3, if_pos h4] at HE
                go_upto_region 19 with (fail)
                obtain ⟨t1, ht1⟩ : ∃ t, t = P.f1 := ⟨_, rfl⟩
                obtain ⟨t2, ht2⟩ : ∃ t, t = R.f13 := ⟨_, rfl⟩
                rw [← ht1] at p1
                rw [← ht2] at r13
                have HT1 := Aside0.mk ht1
                have HT2 := Aside0.mk ht2
                clear ht1 ht2
                go_cut [9] (fun v9 wc => ∃ m : Bool, v9 = .bool m ∧ m = (decide (t2 < 0) || decide (2 < t2) || (t2 != 0 && t1 == 3)) ∧ w5 = wc)
                case first =>
                  by_cases c1 : t2 < 0
                  · have q1 : decide (t2 < 0) = true := decide_eq_true c1
                    go_wp2_with fail
                    go_meet
                    exact ⟨_, rfl, by rw [q1]; rfl, by first | rfl | trivial⟩
                  have q1 : decide (t2 < 0) = false := decide_eq_false c1
                  by_cases c2 : 2 < t2
                  · have q2 : decide (2 < t2) = true := decide_eq_true c2
                    go_wp2_with fail
                    go_meet
                    exact ⟨_, rfl, by rw [q1, q2]; rfl, by first | rfl | trivial⟩
                  have q2 : decide (2 < t2) = false := decide_eq_false c2
                  by_cases c3 : t2 ≠ 0
                  · have q3 : (t2 != 0) = true := bne_iff_ne.mpr c3
                    by_cases c4 : t1 = 3
                    · have q4 : (t1 == 3) = true := beq_iff_eq.mpr c4
                      go_wp2_with fail
                      go_meet
                      exact ⟨_, rfl, by rw [q1, q2, q3, q4]; rfl, by first | rfl | trivial⟩
                    · have q4 : (t1 == 3) = false := beq_eq_false_iff_ne.mpr c4
                      go_wp2_with fail
                      go_meet
                      exact ⟨_, rfl, by rw [q1, q2, q3, q4]; rfl, by first | rfl | trivial⟩
                  have q3 : (t2 != 0) = false := bne_eq_false_iff_eq.mpr (Decidable.of_not_not c3)
                  go_wp2_with fail
                  go_meet
                  exact ⟨_, rfl, by rw [q1, q2, q3]; rfl, by first | rfl | trivial⟩
                case rest =>
                  obtain ⟨m, rfl, hm, rfl⟩ := hcut
                  rw [HT1.out, HT2.out] at hm
                  rw [← hm] at HE
                  clear p1 r1 r13 hm
                  go_upto_region 20 with (fail)
                  have n0_ := Aside0.mk (blk_drew BP.out)
                  have n1_ := Aside0.mk (blk_drew BR.out)
                  have n2_ := Aside0.mk (below_drew1 HB.out)
                  clear BP BR HB
                  have BP := n0_
                  have BR := n1_
                  have HB := n2_
                  clear n0_ n1_ n2_
                  refine start_ (n := 17) (S := fun w' => w'.cell? ⟨g, 14, none⟩ = some (.slice A14 R.f14.length c14) ∧ w'.cell? ⟨g, 15, none⟩ = some (.slice A15 R.f15.length c15) ∧ w'.cell? ⟨g, 16, none⟩ = some (.slice A16 R.f16.length c16)) (ds := []) #[false, false, false, false, false, false, false, false, false, false, false, false, false, false, false, false, false] (by kernel_rfl) rfl rfl ⟨(blk_cell BR.out 14).trans rfl, (blk_cell BR.out 15).trans rfl, (blk_cell BR.out 16).trans rfl⟩ (fun hHeld => ?_)
                  refine with_tabW ruleError.tab20 ruleError.bits20 (fun HT_ HW_ => ?_)
                  refine pure_ (i := 0) (N := some 148) (v := ?_) (a' := ?_) #[true, false, false, false, false, false, false, false, false, false, false, false, false, false, false, false, false] rfl rfl (any_of HT_.out (by kernel_rfl)) (fun _ _ _ h => h) (Or.inl ⟨by rfl, ?_⟩) ?_ ?_
                  rotate_left
                  · intro w'
                    go_simp
                    with_reducible rfl
                  rotate_left
                  · simp only [Act.put, List.setIfInBounds_toArray, List.set_cons_zero, List.set_cons_succ, i64_w, i32_w]
                    rfl
                  refine pure_ (i := 2) (N := some 150) (v := ?_) (a' := ?_) #[true, false, true, false, false, false, false, false, false, false, false, false, false, false, false, false, false] rfl rfl (any_of HT_.out (by kernel_rfl)) (fun _ _ _ h => h) (Or.inl ⟨by rfl, ?_⟩) ?_ ?_
                  rotate_left
                  · intro w'
                    go_simp
                    with_reducible rfl
                  rotate_left
                  · simp only [Act.put, List.setIfInBounds_toArray, List.set_cons_zero, List.set_cons_succ, i64_w, i32_w]
                    rfl
                  refine pure_ (i := 4) (N := some 152) (v := ?_) (a' := ?_) #[true, false, true, false, true, false, false, false, false, false, false, false, false, false, false, false, false] rfl rfl (any_of HT_.out (by kernel_rfl)) (fun _ _ _ h => h) (Or.inl ⟨by rfl, ?_⟩) ?_ ?_
                  rotate_left
                  · intro w'
                    go_simp
                    with_reducible rfl
                  rotate_left
                  · simp only [Act.put, List.setIfInBounds_toArray, List.set_cons_zero, List.set_cons_succ, i64_w, i32_w]
                    rfl
                  refine pure_ (i := 6) (N := some 154) (v := ?_) (a' := ?_) #[true, false, true, false, true, false, true, false, false, false, false, false, false, false, false, false, false] rfl rfl (any_of HT_.out (by kernel_rfl)) (fun _ _ _ h => h) (Or.inl ⟨by rfl, ?_⟩) ?_ ?_
                  rotate_left
                  · intro w'
                    go_simp
                    with_reducible rfl
                  rotate_left
                  · simp only [Act.put, List.setIfInBounds_toArray, List.set_cons_zero, List.set_cons_succ, i64_w, i32_w]
                    rfl
                  refine pure_ (i := 8) (N := some 156) (v := ?_) (a' := ?_) #[true, false, true, false, true, false, true, false, true, false, false, false, false, false, false, false, false] rfl rfl (any_of HT_.out (by kernel_rfl)) (fun _ _ _ h => h) (Or.inl ⟨by rfl, ?_⟩) ?_ ?_
                  rotate_left
                  · intro w'
                    go_simp
                    with_reducible rfl
                  rotate_left
                  · simp only [Act.put, List.setIfInBounds_toArray, List.set_cons_zero, List.set_cons_succ, i64_w, i32_w]
                    rfl
                  refine pure_ (i := 10) (N := some 158) (v := ?_) (a' := ?_) #[true, false, true, false, true, false, true, false, true, false, true, false, false, false, false, false, false] rfl rfl (any_of HT_.out (by kernel_rfl)) (fun _ _ _ h => h) (Or.inl ⟨by rfl, ?_⟩) ?_ ?_
                  rotate_left
                  · intro w'
                    go_simp
                    with_reducible rfl
                  rotate_left
                  · simp only [Act.put, List.setIfInBounds_toArray, List.set_cons_zero, List.set_cons_succ, i64_w, i32_w]
                    rfl
                  refine pure_ (i := 12) (N := some 160) (v := ?_) (a' := ?_) #[true, false, true, false, true, false, true, false, true, false, true, false, true, false, false, false, false] rfl rfl (any_of HT_.out (by kernel_rfl)) (fun _ _ _ h => h) (Or.inl ⟨by rfl, ?_⟩) ?_ ?_
                  rotate_left
                  · intro w'
                    go_simp
                    with_reducible rfl
                  rotate_left
                  · simp only [Act.put, List.setIfInBounds_toArray, List.set_cons_zero, List.set_cons_succ, i64_w, i32_w]
                    rfl
                  refine take_ (i := 1) (N := some 149) (v := ?_) (a' := ?_) #[true, true, true, false, true, false, true, false, true, false, true, false, true, false, false, false, false] rfl rfl (take_ofW HT_.out HW_.out (by kernel_rfl)) (fun _ _ _ h => h) (Or.inl ⟨by rfl, ?_⟩) hHeld ?_ ?_
                  rotate_left
                  · rintro w' ⟨s0, s1, s2⟩
                    go_simp
                    with_reducible rfl
                  rotate_left
                  · simp only [Act.put, List.setIfInBounds_toArray, List.set_cons_zero, List.set_cons_succ, i64_w, i32_w]
                    rfl
                  refine take_ (i := 5) (N := some 153) (v := ?_) (a' := ?_) #[true, true, true, false, true, true, true, false, true, false, true, false, true, false, false, false, false] rfl rfl (take_ofW HT_.out HW_.out (by kernel_rfl)) (fun _ _ _ h => h) (Or.inl ⟨by rfl, ?_⟩) hHeld ?_ ?_
                  rotate_left
                  · rintro w' ⟨s0, s1, s2⟩
                    go_simp
                    with_reducible rfl
                  rotate_left
                  · simp only [Act.put, List.setIfInBounds_toArray, List.set_cons_zero, List.set_cons_succ, i64_w, i32_w]
                    rfl
                  refine take_ (i := 9) (N := some 157) (v := ?_) (a' := ?_) #[true, true, true, false, true, true, true, false, true, true, true, false, true, false, false, false, false] rfl rfl (take_ofW HT_.out HW_.out (by kernel_rfl)) (fun _ _ _ h => h) (Or.inl ⟨by rfl, ?_⟩) hHeld ?_ ?_
                  rotate_left
                  · rintro w' ⟨s0, s1, s2⟩
                    go_simp
                    with_reducible rfl
                  rotate_left
                  · simp only [Act.put, List.setIfInBounds_toArray, List.set_cons_zero, List.set_cons_succ, i64_w, i32_w]
                    rfl
                  refine one_ (i := 3) (N := some 151) #[true, true, true, true, true, true, true, false, true, true, true, false, true, false, false, false, false] rfl rfl (one_of HT_.out (by kernel_rfl)) (by decide) (fun K hK => ?_)
                  refine goes_ Tryd.func34 (by kernel_rfl) rfl #[.slice A14 R.f14.length c14, .int .i64 (P.f2.length : Int)] (by rfl) rfl rfl (by first | rfl | (simp only [List.map_toArray, List.map_cons, List.map_nil]; rfl)) ?_
                  refine (set_any A14 c14 R.f14 (P.f2.length : Int) _ (Kd.C_below K14.out HB.out)).mono ?_
                  rintro e w' ⟨rfl, hb⟩
                  refine ⟨_, rfl, ?_⟩
                  have n0_ := Aside0.mk (blk_below BP.out hb)
                  have n1_ := Aside0.mk (blk_below BR.out hb)
                  have n2_ := Aside0.mk (HB.out.trans (Below.mono hb HB.out.size))
                  clear BP BR HB
                  have BP := n0_
                  have BR := n1_
                  have HB := n2_
                  clear n0_ n1_ n2_
                  clear hb
                  refine hK.out _ _ ⟨(blk_cell BR.out 14).trans rfl, (blk_cell BR.out 15).trans rfl, (blk_cell BR.out 16).trans rfl⟩ (fun hHeld => ?_)
                  clear hK K
                  refine norm_ (a' := ?_) ?_ ?_
                  rotate_left
                  · show Act.put _ (some 151) _ = _
                    simp only [Act.put, List.setIfInBounds_toArray, List.set_cons_zero, List.set_cons_succ, i64_w, i32_w]
                    rfl
                  refine one_ (i := 7) (N := some 155) #[true, true, true, true, true, true, true, true, true, true, true, false, true, false, false, false, false] rfl rfl (one_of HT_.out (by kernel_rfl)) (by decide) (fun K hK => ?_)
                  refine goes_ Tryd.func34 (by kernel_rfl) rfl #[.slice A15 R.f15.length c15, .int .i64 (P.f2.length : Int)] (by rfl) rfl rfl (by first | rfl | (simp only [List.map_toArray, List.map_cons, List.map_nil]; rfl)) ?_
                  refine (set_any A15 c15 R.f15 (P.f2.length : Int) _ (Kd.C_below K15.out HB.out)).mono ?_
                  rintro e w' ⟨rfl, hb⟩
                  refine ⟨_, rfl, ?_⟩
                  have n0_ := Aside0.mk (blk_below BP.out hb)
                  have n1_ := Aside0.mk (blk_below BR.out hb)
                  have n2_ := Aside0.mk (HB.out.trans (Below.mono hb HB.out.size))
                  clear BP BR HB
                  have BP := n0_
                  have BR := n1_
                  have HB := n2_
                  clear n0_ n1_ n2_
                  clear hb
                  refine hK.out _ _ ⟨(blk_cell BR.out 14).trans rfl, (blk_cell BR.out 15).trans rfl, (blk_cell BR.out 16).trans rfl⟩ (fun hHeld => ?_)
                  clear hK K
                  refine norm_ (a' := ?_) ?_ ?_
                  rotate_left
                  · show Act.put _ (some 155) _ = _
                    simp only [Act.put, List.setIfInBounds_toArray, List.set_cons_zero, List.set_cons_succ, i64_w, i32_w]
                    rfl
                  refine one_ (i := 11) (N := some 159) #[true, true, true, true, true, true, true, true, true, true, true, true, true, false, false, false, false] rfl rfl (one_of HT_.out (by kernel_rfl)) (by decide) (fun K hK => ?_)
                  refine goes_ Tryd.func34 (by kernel_rfl) rfl #[.slice A16 R.f16.length c16, .int .i64 (P.f2.length : Int)] (by rfl) rfl rfl (by first | rfl | (simp only [List.map_toArray, List.map_cons, List.map_nil]; rfl)) ?_
                  refine (set_any A16 c16 R.f16 (P.f2.length : Int) _ (Kd.C_below K16.out HB.out)).mono ?_
                  rintro e w' ⟨rfl, hb⟩
                  refine ⟨_, rfl, ?_⟩
                  have n0_ := Aside0.mk (blk_below BP.out hb)
                  have n1_ := Aside0.mk (blk_below BR.out hb)
                  have n2_ := Aside0.mk (HB.out.trans (Below.mono hb HB.out.size))
                  clear BP BR HB
                  have BP := n0_
                  have BR := n1_
                  have HB := n2_
                  clear n0_ n1_ n2_
                  clear hb
                  refine hK.out _ _ ⟨(blk_cell BR.out 14).trans rfl, (blk_cell BR.out 15).trans rfl, (blk_cell BR.out 16).trans rfl⟩ (fun hHeld => ?_)
                  clear hK K
                  refine norm_ (a' := ?_) ?_ ?_
                  rotate_left
                  · show Act.put _ (some 159) _ = _
                    simp only [Act.put, List.setIfInBounds_toArray, List.set_cons_zero, List.set_cons_succ, i64_w, i32_w]
                    rfl
                  refine one_ (i := 13) (N := some 161) #[true, true, true, true, true, true, true, true, true, true, true, true, true, true, false, false, false] rfl rfl (one_of HT_.out (by kernel_rfl)) (by decide) (fun K hK => ?_)
                  refine goes_ Tryd.func35 (by kernel_rfl) rfl #[.bool m, .int .i64 1] (by rfl) rfl rfl (by first | rfl | (simp only [List.map_toArray, List.map_cons, List.map_nil]; rfl)) ?_
                  refine (when_any _ _ _).mono ?_
                  rintro e w' ⟨rfl, rfl⟩
                  refine ⟨_, rfl, ?_⟩
                  refine hK.out _ _ ⟨(blk_cell BR.out 14).trans rfl, (blk_cell BR.out 15).trans rfl, (blk_cell BR.out 16).trans rfl⟩ (fun hHeld => ?_)
                  clear hK K
                  refine norm_ (a' := ?_) ?_ ?_
                  rotate_left
                  · show Act.put _ (some 161) _ = _
                    simp only [Act.put, List.setIfInBounds_toArray, List.set_cons_zero, List.set_cons_succ, i64_w, i32_w]
                    rfl
                  refine one_ (i := 14) (N := some 162) #[true, true, true, true, true, true, true, true, true, true, true, true, true, true, true, false, false] rfl rfl (one_of HT_.out (by kernel_rfl)) (by decide) (fun K hK => ?_)
                  refine Kd.R_lit_step (Kd.int .i64) _ 36 ?hg (N := 162) ?hd (xs := ([(setE R.f14 (P.f2.length : Int)), (setE R.f15 (P.f2.length : Int)), (setE R.f16 (P.f2.length : Int)), (whenE m 1)] : List Int)) (inner := [.int .i64 (setE R.f14 (P.f2.length : Int)), .int .i64 (setE R.f15 (P.f2.length : Int)), .int .i64 (setE R.f16 (P.f2.length : Int)), .int .i64 (whenE m 1)]) (ok := fun _ => True) (okp := fun _ => True) ?hr ?hp (fun _ hk => hk) trivial (Below.refl _ _) (Nat.le_refl _) (by simp) ?_; (case hd => rfl); (case hg => rfl); (case hr => first | (go_simp; done) | (go_simp; rfl)); (case hp => exact (Reps.one (show Kd.M (Kd.int .i64) _ _ _ (setE R.f14 (P.f2.length : Int)) [.int .i64 (setE R.f14 (P.f2.length : Int))] from rfl) (Reps.one (show Kd.M (Kd.int .i64) _ _ _ (setE R.f15 (P.f2.length : Int)) [.int .i64 (setE R.f15 (P.f2.length : Int))] from rfl) (Reps.one (show Kd.M (Kd.int .i64) _ _ _ (setE R.f16 (P.f2.length : Int)) [.int .i64 (setE R.f16 (P.f2.length : Int))] from rfl) (Reps.one (show Kd.M (Kd.int .i64) _ _ _ (whenE m 1) [.int .i64 (whenE m 1)] from rfl) (Reps.none _ _))))))
                  intro vL wL ho hb hg_ hnew_
                  clear hg_ hnew_
                  obtain ⟨aL, cL, rfl⟩ := Kd.R_slice ho
                  have HL := Aside0.mk (Kd.R_reads' ho)
                  clear ho
                  have n0_ := Aside0.mk (blk_below BP.out hb)
                  have n1_ := Aside0.mk (blk_below BR.out hb)
                  have n2_ := Aside0.mk (HB.out.trans (Below.mono hb HB.out.size))
                  clear BP BR HB
                  have BP := n0_
                  have BR := n1_
                  have HB := n2_
                  clear n0_ n1_ n2_
                  clear hb
                  refine hK.out _ _ ⟨(blk_cell BR.out 14).trans rfl, (blk_cell BR.out 15).trans rfl, (blk_cell BR.out 16).trans rfl⟩ (fun hHeld => ?_)
                  clear hK K
                  refine norm_ (a' := ?_) ?_ ?_
                  rotate_left
                  · show Act.put _ (some 162) _ = _
                    simp only [Act.put, List.setIfInBounds_toArray, List.set_cons_zero, List.set_cons_succ, i64_w, i32_w]
                    rfl
                  refine one_ (i := 15) (N := some 163) #[true, true, true, true, true, true, true, true, true, true, true, true, true, true, true, true, false] rfl rfl (one_of HT_.out (by kernel_rfl)) (by decide) (fun K hK => ?_)
                  refine goes_ Tryd.func22 (by kernel_rfl) rfl #[.slice aL 4 cL] (by rfl) rfl rfl (by first | rfl | (simp only [List.map_toArray, List.map_cons, List.map_nil]; rfl)) ?_
                  refine (first_any _ _ [(setE R.f14 (P.f2.length : Int)), (setE R.f15 (P.f2.length : Int)), (setE R.f16 (P.f2.length : Int)), (whenE m 1)] _ HL.out.2.2).mono ?_
                  rintro e w' ⟨rfl, rfl⟩
                  refine ⟨_, rfl, ?_⟩
                  refine hK.out _ _ ⟨(blk_cell BR.out 14).trans rfl, (blk_cell BR.out 15).trans rfl, (blk_cell BR.out 16).trans rfl⟩ (fun hHeld => ?_)
                  clear hK K
                  refine norm_ (a' := ?_) ?_ ?_
                  rotate_left
                  · show Act.put _ (some 163) _ = _
                    simp only [Act.put, List.setIfInBounds_toArray, List.set_cons_zero, List.set_cons_succ, i64_w, i32_w]
                    rfl
                  refine pure_ (i := 16) (N := some 4) (v := ?_) (a' := ?_) #[true, true, true, true, true, true, true, true, true, true, true, true, true, true, true, true, true] rfl rfl (any_of HT_.out (by kernel_rfl)) (fun _ _ _ h => h) (Or.inl ⟨by rfl, ?_⟩) ?_ ?_
                  rotate_left
                  · intro w'
                    go_simp
                    with_reducible rfl
                  rotate_left
                  · simp only [Act.put, List.setIfInBounds_toArray, List.set_cons_zero, List.set_cons_succ, i64_w, i32_w]
                    rfl
                  refine done_ (done_of HT_.out (by kernel_rfl)) ?_
                  go_wp2_with fail
                  go_ret
                  exact ⟨by rw [HRR.out, ← HE.out]; rfl, HB.out⟩
              have e4 : (R.f1 == 4) = false := beq_eq_false_iff_ne.mpr h4
              rw [if_neg h1, if_neg h2, if_neg h3, if_neg h4] at HE
              go_upto_if 166 with (fail)
              obtain ⟨z4, hz4⟩ : ∃ z, z = (P.f1 == 4) := ⟨_, rfl⟩
              rw [← hz4]
              have HZ := Aside0.mk hz4
              clear hz4
              go_cut [10, 11] (fun v10 v11 wc => ∃ lo hi : Int, v10 = .int .i64 lo ∧ v11 = .int .i64 hi ∧ lo = (if z4 = true then 3 else 1) ∧ hi = (if z4 = true then 4 else 2) ∧ w5 = wc)
              case first =>
                cases z4
                · go_wp2_with fail
                  go_meet
                  exact ⟨_, _, rfl, rfl, rfl, rfl, by first | rfl | trivial⟩
                · go_wp2_with fail
                  go_meet
                  exact ⟨_, _, rfl, rfl, rfl, rfl, by first | rfl | trivial⟩
              case rest =>
                obtain ⟨lo, hi2, rfl, rfl, hlo, hhi, rfl⟩ := hcut
                rw [HZ.out] at hlo hhi
                simp only [beq_iff_eq] at hlo hhi
                rw [← hlo, ← hhi] at HE
                clear p1 r1 r13 hlo hhi
                go_upto_region 24 with (fail)
                by_cases c1 : R.f17 < lo
                · have q1 : decide (R.f17 < lo) = true := decide_eq_true c1
                  rw [q1, Bool.true_or] at HE
                  have n0_ := Aside0.mk (blk_drew BP.out)
                  have n1_ := Aside0.mk (blk_drew BR.out)
                  have n2_ := Aside0.mk (below_drew1 HB.out)
                  clear BP BR HB
                  have BP := n0_
                  have BR := n1_
                  have HB := n2_
                  clear n0_ n1_ n2_
                  refine start_ (n := 22) (S := fun w' => w'.cell? ⟨g, 4, none⟩ = some (.int .i64 R.f4) ∧ w'.cell? ⟨g, 5, none⟩ = some (.int .i64 R.f5) ∧ w'.cell? ⟨g, 17, none⟩ = some (.int .i64 R.f17)) (ds := []) #[false, false, false, false, false, false, false, false, false, false, false, false, false, false, false, false, false, false, false, false, false, false] (by kernel_rfl) rfl rfl ⟨(blk_cell BR.out 4).trans rfl, (blk_cell BR.out 5).trans rfl, (blk_cell BR.out 17).trans rfl⟩ (fun hHeld => ?_)
                  refine with_tabW ruleError.tab24 ruleError.bits24 (fun HT_ HW_ => ?_)
                  refine pure_ (i := 0) (N := some 167) (v := ?_) (a' := ?_) #[true, false, false, false, false, false, false, false, false, false, false, false, false, false, false, false, false, false, false, false, false, false] rfl rfl (any_of HT_.out (by kernel_rfl)) (fun _ _ _ h => h) (Or.inl ⟨by rfl, ?_⟩) ?_ ?_
                  rotate_left
                  · intro w'
                    go_simp
                    with_reducible rfl
                  rotate_left
                  · simp only [Act.put, List.setIfInBounds_toArray, List.set_cons_zero, List.set_cons_succ, i64_w, i32_w]
                    rfl
                  refine pure_ (i := 2) (N := some 169) (v := ?_) (a' := ?_) #[true, false, true, false, false, false, false, false, false, false, false, false, false, false, false, false, false, false, false, false, false, false] rfl rfl (any_of HT_.out (by kernel_rfl)) (fun _ _ _ h => h) (Or.inl ⟨by rfl, ?_⟩) ?_ ?_
                  rotate_left
                  · intro w'
                    go_simp
                    with_reducible rfl
                  rotate_left
                  · simp only [Act.put, List.setIfInBounds_toArray, List.set_cons_zero, List.set_cons_succ, i64_w, i32_w]
                    rfl
                  refine pure_ (i := 4) (N := some 171) (v := ?_) (a' := ?_) #[true, false, true, false, true, false, false, false, false, false, false, false, false, false, false, false, false, false, false, false, false, false] rfl rfl (any_of HT_.out (by kernel_rfl)) (fun _ _ _ h => h) (Or.inl ⟨by rfl, ?_⟩) ?_ ?_
                  rotate_left
                  · intro w'
                    go_simp
                    with_reducible rfl
                  rotate_left
                  · simp only [Act.put, List.setIfInBounds_toArray, List.set_cons_zero, List.set_cons_succ, i64_w, i32_w]
                    rfl
                  refine pure_ (i := 6) (N := some 173) (v := ?_) (a' := ?_) #[true, false, true, false, true, false, true, false, false, false, false, false, false, false, false, false, false, false, false, false, false, false] rfl rfl (any_of HT_.out (by kernel_rfl)) (fun _ _ _ h => h) (Or.inl ⟨by rfl, ?_⟩) ?_ ?_
                  rotate_left
                  · intro w'
                    go_simp
                    with_reducible rfl
                  rotate_left
                  · simp only [Act.put, List.setIfInBounds_toArray, List.set_cons_zero, List.set_cons_succ, i64_w, i32_w]
                    rfl
                  refine pure_ (i := 8) (N := some 175) (v := ?_) (a' := ?_) #[true, false, true, false, true, false, true, false, true, false, false, false, false, false, false, false, false, false, false, false, false, false] rfl rfl (any_of HT_.out (by kernel_rfl)) (fun _ _ _ h => h) (Or.inl ⟨by rfl, ?_⟩) ?_ ?_
                  rotate_left
                  · intro w'
                    go_simp
                    with_reducible rfl
                  rotate_left
                  · simp only [Act.put, List.setIfInBounds_toArray, List.set_cons_zero, List.set_cons_succ, i64_w, i32_w]
                    rfl
                  refine pure_ (i := 10) (N := some 177) (v := ?_) (a' := ?_) #[true, false, true, false, true, false, true, false, true, false, true, false, false, false, false, false, false, false, false, false, false, false] rfl rfl (any_of HT_.out (by kernel_rfl)) (fun _ _ _ h => h) (Or.inl ⟨by rfl, ?_⟩) ?_ ?_
                  rotate_left
                  · intro w'
                    go_simp
                    with_reducible rfl
                  rotate_left
                  · simp only [Act.put, List.setIfInBounds_toArray, List.set_cons_zero, List.set_cons_succ, i64_w, i32_w]
                    rfl
                  refine take_ (i := 1) (N := some 168) (v := ?_) (a' := ?_) #[true, true, true, false, true, false, true, false, true, false, true, false, false, false, false, false, false, false, false, false, false, false] rfl rfl (take_ofW HT_.out HW_.out (by kernel_rfl)) (fun _ _ _ h => h) (Or.inl ⟨by rfl, ?_⟩) hHeld ?_ ?_
                  rotate_left
                  · rintro w' ⟨s0, s1, s2⟩
                    go_simp
                    with_reducible rfl
                  rotate_left
                  · simp only [Act.put, List.setIfInBounds_toArray, List.set_cons_zero, List.set_cons_succ, i64_w, i32_w]
                    rfl
                  refine take_ (i := 5) (N := some 172) (v := ?_) (a' := ?_) #[true, true, true, false, true, true, true, false, true, false, true, false, false, false, false, false, false, false, false, false, false, false] rfl rfl (take_ofW HT_.out HW_.out (by kernel_rfl)) (fun _ _ _ h => h) (Or.inl ⟨by rfl, ?_⟩) hHeld ?_ ?_
                  rotate_left
                  · rintro w' ⟨s0, s1, s2⟩
                    go_simp
                    with_reducible rfl
                  rotate_left
                  · simp only [Act.put, List.setIfInBounds_toArray, List.set_cons_zero, List.set_cons_succ, i64_w, i32_w]
                    rfl
                  refine take_ (i := 9) (N := some 176) (v := ?_) (a' := ?_) #[true, true, true, false, true, true, true, false, true, true, true, false, false, false, false, false, false, false, false, false, false, false] rfl rfl (take_ofW HT_.out HW_.out (by kernel_rfl)) (fun _ _ _ h => h) (Or.inl ⟨by rfl, ?_⟩) hHeld ?_ ?_
                  rotate_left
                  · rintro w' ⟨s0, s1, s2⟩
                    go_simp
                    with_reducible rfl
                  rotate_left
                  · simp only [Act.put, List.setIfInBounds_toArray, List.set_cons_zero, List.set_cons_succ, i64_w, i32_w]
                    rfl
                  refine pure_ (i := 11) (N := some 178) (v := ?_) (a' := ?_) #[true, true, true, false, true, true, true, false, true, true, true, true, false, false, false, false, false, false, false, false, false, false] rfl rfl (any_of HT_.out (by kernel_rfl)) (fun _ _ _ h => h) (Or.inl ⟨by rfl, ?_⟩) ?_ ?_
                  rotate_left
                  · intro w'
                    go_simp
                    with_reducible rfl
                  rotate_left
                  · simp only [Act.put, List.setIfInBounds_toArray, List.set_cons_zero, List.set_cons_succ, i64_w, i32_w]
                    rfl
                  refine one_ (i := 3) (N := some 170) #[true, true, true, true, true, true, true, false, true, true, true, true, false, false, false, false, false, false, false, false, false, false] rfl rfl (one_of HT_.out (by kernel_rfl)) (by decide) (fun K hK => ?_)
                  refine goes_ Tryd.func57 (by kernel_rfl) rfl #[.int .i64 R.f4, .int .i64 (P.f2.length : Int)] (by rfl) rfl rfl (by first | rfl | (simp only [List.map_toArray, List.map_cons, List.map_nil]; rfl)) ?_
                  refine (idx_any _ _ _).mono ?_
                  rintro e w' ⟨rfl, rfl⟩
                  refine ⟨_, rfl, ?_⟩
                  refine hK.out _ _ ⟨(blk_cell BR.out 4).trans rfl, (blk_cell BR.out 5).trans rfl, (blk_cell BR.out 17).trans rfl⟩ (fun hHeld => ?_)
                  clear hK K
                  refine norm_ (a' := ?_) ?_ ?_
                  rotate_left
                  · show Act.put _ (some 170) _ = _
                    simp only [Act.put, List.setIfInBounds_toArray, List.set_cons_zero, List.set_cons_succ, i64_w, i32_w]
                    rfl
                  refine one_ (i := 7) (N := some 174) #[true, true, true, true, true, true, true, true, true, true, true, true, false, false, false, false, false, false, false, false, false, false] rfl rfl (one_of HT_.out (by kernel_rfl)) (by decide) (fun K hK => ?_)
                  refine goes_ Tryd.func57 (by kernel_rfl) rfl #[.int .i64 R.f5, .int .i64 (P.f2.length : Int)] (by rfl) rfl rfl (by first | rfl | (simp only [List.map_toArray, List.map_cons, List.map_nil]; rfl)) ?_
                  refine (idx_any _ _ _).mono ?_
                  rintro e w' ⟨rfl, rfl⟩
                  refine ⟨_, rfl, ?_⟩
                  refine hK.out _ _ ⟨(blk_cell BR.out 4).trans rfl, (blk_cell BR.out 5).trans rfl, (blk_cell BR.out 17).trans rfl⟩ (fun hHeld => ?_)
                  clear hK K
                  refine norm_ (a' := ?_) ?_ ?_
                  rotate_left
                  · show Act.put _ (some 174) _ = _
                    simp only [Act.put, List.setIfInBounds_toArray, List.set_cons_zero, List.set_cons_succ, i64_w, i32_w]
                    rfl
                  refine pure_ (i := 12) (N := some 179) (v := ?_) (a' := ?_) #[true, true, true, true, true, true, true, true, true, true, true, true, true, false, false, false, false, false, false, false, false, false] rfl rfl (any_of HT_.out (by kernel_rfl)) (fun _ _ _ h => h) (Or.inl ⟨by rfl, ?_⟩) ?_ ?_
                  rotate_left
                  · intro w'
                    go_simp
                    with_reducible rfl
                  rotate_left
                  · simp only [Act.put, List.setIfInBounds_toArray, List.set_cons_zero, List.set_cons_succ, i64_w, i32_w]
                    rfl
                  refine pure_ (i := 13) (N := some 180) (v := undef) (a' := ?_) #[true, true, true, true, true, true, true, true, true, true, true, true, true, true, false, false, false, false, false, false, false, false] rfl rfl (any_of HT_.out (by kernel_rfl)) (fun _ _ _ h => h) (Or.inr ⟨by rfl, rfl⟩) ?_ ?_
                  rotate_left
                  · simp only [Act.put, List.setIfInBounds_toArray, List.set_cons_zero, List.set_cons_succ, i64_w, i32_w]
                    rfl
                  refine pure_ (i := 14) (N := some 181) (v := undef) (a' := ?_) #[true, true, true, true, true, true, true, true, true, true, true, true, true, true, true, false, false, false, false, false, false, false] rfl rfl (any_of HT_.out (by kernel_rfl)) (fun _ _ _ h => h) (Or.inr ⟨by rfl, rfl⟩) ?_ ?_
                  rotate_left
                  · simp only [Act.put, List.setIfInBounds_toArray, List.set_cons_zero, List.set_cons_succ, i64_w, i32_w]
                    rfl
                  refine pure_ (i := 15) (N := some 182) (v := undef) (a' := ?_) #[true, true, true, true, true, true, true, true, true, true, true, true, true, true, true, true, false, false, false, false, false, false] rfl rfl (any_of HT_.out (by kernel_rfl)) (fun _ _ _ h => h) (Or.inr ⟨by rfl, rfl⟩) ?_ ?_
                  rotate_left
                  · simp only [Act.put, List.setIfInBounds_toArray, List.set_cons_zero, List.set_cons_succ, i64_w, i32_w]
                    rfl
                  refine pure_ (i := 16) (N := some 183) (v := undef) (a' := ?_) #[true, true, true, true, true, true, true, true, true, true, true, true, true, true, true, true, true, false, false, false, false, false] rfl rfl (any_of HT_.out (by kernel_rfl)) (fun _ _ _ h => h) (Or.inr ⟨by rfl, rfl⟩) ?_ ?_
                  rotate_left
                  · simp only [Act.put, List.setIfInBounds_toArray, List.set_cons_zero, List.set_cons_succ, i64_w, i32_w]
                    rfl
                  refine pure_ (i := 17) (N := some 184) (v := ?_) (a' := ?_) #[true, true, true, true, true, true, true, true, true, true, true, true, true, true, true, true, true, true, false, false, false, false] rfl rfl (any_of HT_.out (by kernel_rfl)) (fun _ _ _ h => h) (Or.inl ⟨by rfl, ?_⟩) ?_ ?_
                  rotate_left
                  · intro w'
                    go_simp
                    with_reducible rfl
                  rotate_left
                  · simp only [Act.put, List.setIfInBounds_toArray, List.set_cons_zero, List.set_cons_succ, i64_w, i32_w]
                    rfl
                  refine one_ (i := 18) (N := some 185) #[true, true, true, true, true, true, true, true, true, true, true, true, true, true, true, true, true, true, true, false, false, false] rfl rfl (one_of HT_.out (by kernel_rfl)) (by decide) (fun K hK => ?_)
                  refine goes_ Tryd.func35 (by kernel_rfl) rfl #[.bool true, .int .i64 1] (by rfl) rfl rfl (by first | rfl | (simp only [List.map_toArray, List.map_cons, List.map_nil]; rfl)) ?_
                  refine (when_any _ _ _).mono ?_
                  rintro e w' ⟨rfl, rfl⟩
                  refine ⟨_, rfl, ?_⟩
                  refine hK.out _ _ ⟨(blk_cell BR.out 4).trans rfl, (blk_cell BR.out 5).trans rfl, (blk_cell BR.out 17).trans rfl⟩ (fun hHeld => ?_)
                  clear hK K
                  refine norm_ (a' := ?_) ?_ ?_
                  rotate_left
                  · show Act.put _ (some 185) _ = _
                    simp only [Act.put, List.setIfInBounds_toArray, List.set_cons_zero, List.set_cons_succ, i64_w, i32_w]
                    rfl
                  refine one_ (i := 19) (N := some 186) #[true, true, true, true, true, true, true, true, true, true, true, true, true, true, true, true, true, true, true, true, false, false] rfl rfl (one_of HT_.out (by kernel_rfl)) (by decide) (fun K hK => ?_)
                  refine Kd.R_lit_step (Kd.int .i64) _ 36 ?hg (N := 186) ?hd (xs := ([(idxE R.f4 (P.f2.length : Int)), (idxE R.f5 (P.f2.length : Int)), (whenE true 1)] : List Int)) (inner := [.int .i64 (idxE R.f4 (P.f2.length : Int)), .int .i64 (idxE R.f5 (P.f2.length : Int)), .int .i64 (whenE true 1)]) (ok := fun _ => True) (okp := fun _ => True) ?hr ?hp (fun _ hk => hk) trivial (Below.refl _ _) (Nat.le_refl _) (by simp) ?_; (case hd => rfl); (case hg => rfl); (case hr => first | (go_simp; done) | (go_simp; rfl)); (case hp => exact (Reps.one (show Kd.M (Kd.int .i64) _ _ _ (idxE R.f4 (P.f2.length : Int)) [.int .i64 (idxE R.f4 (P.f2.length : Int))] from rfl) (Reps.one (show Kd.M (Kd.int .i64) _ _ _ (idxE R.f5 (P.f2.length : Int)) [.int .i64 (idxE R.f5 (P.f2.length : Int))] from rfl) (Reps.one (show Kd.M (Kd.int .i64) _ _ _ (whenE true 1) [.int .i64 (whenE true 1)] from rfl) (Reps.none _ _)))))
                  intro vL wL ho hb hg_ hnew_
                  clear hg_ hnew_
                  obtain ⟨aL, cL, rfl⟩ := Kd.R_slice ho
                  have HL := Aside0.mk (Kd.R_reads' ho)
                  clear ho
                  have n0_ := Aside0.mk (blk_below BP.out hb)
                  have n1_ := Aside0.mk (blk_below BR.out hb)
                  have n2_ := Aside0.mk (HB.out.trans (Below.mono hb HB.out.size))
                  clear BP BR HB
                  have BP := n0_
                  have BR := n1_
                  have HB := n2_
                  clear n0_ n1_ n2_
                  clear hb
                  refine hK.out _ _ ⟨(blk_cell BR.out 4).trans rfl, (blk_cell BR.out 5).trans rfl, (blk_cell BR.out 17).trans rfl⟩ (fun hHeld => ?_)
                  clear hK K
                  refine norm_ (a' := ?_) ?_ ?_
                  rotate_left
                  · show Act.put _ (some 186) _ = _
                    simp only [Act.put, List.setIfInBounds_toArray, List.set_cons_zero, List.set_cons_succ, i64_w, i32_w]
                    rfl
                  refine one_ (i := 20) (N := some 187) #[true, true, true, true, true, true, true, true, true, true, true, true, true, true, true, true, true, true, true, true, true, false] rfl rfl (one_of HT_.out (by kernel_rfl)) (by decide) (fun K hK => ?_)
                  refine goes_ Tryd.func22 (by kernel_rfl) rfl #[.slice aL 3 cL] (by rfl) rfl rfl (by first | rfl | (simp only [List.map_toArray, List.map_cons, List.map_nil]; rfl)) ?_
                  refine (first_any _ _ [(idxE R.f4 (P.f2.length : Int)), (idxE R.f5 (P.f2.length : Int)), (whenE true 1)] _ HL.out.2.2).mono ?_
                  rintro e w' ⟨rfl, rfl⟩
                  refine ⟨_, rfl, ?_⟩
                  refine hK.out _ _ ⟨(blk_cell BR.out 4).trans rfl, (blk_cell BR.out 5).trans rfl, (blk_cell BR.out 17).trans rfl⟩ (fun hHeld => ?_)
                  clear hK K
                  refine norm_ (a' := ?_) ?_ ?_
                  rotate_left
                  · show Act.put _ (some 187) _ = _
                    simp only [Act.put, List.setIfInBounds_toArray, List.set_cons_zero, List.set_cons_succ, i64_w, i32_w]
                    rfl
                  refine pure_ (i := 21) (N := some 4) (v := ?_) (a' := ?_) #[true, true, true, true, true, true, true, true, true, true, true, true, true, true, true, true, true, true, true, true, true, true] rfl rfl (any_of HT_.out (by kernel_rfl)) (fun _ _ _ h => h) (Or.inl ⟨by rfl, ?_⟩) ?_ ?_
                  rotate_left
                  · intro w'
                    go_simp
                    with_reducible rfl
                  rotate_left
                  · simp only [Act.put, List.setIfInBounds_toArray, List.set_cons_zero, List.set_cons_succ, i64_w, i32_w]
                    rfl
                  refine done_ (done_of HT_.out (by kernel_rfl)) ?_
                  go_wp2_with fail
                  go_ret
                  exact ⟨by rw [HRR.out, ← HE.out]; rfl, HB.out⟩
                · have q1 : decide (R.f17 < lo) = false := decide_eq_false c1
                  rw [q1, Bool.false_or] at HE
                  have n0_ := Aside0.mk (blk_drew BP.out)
                  have n1_ := Aside0.mk (blk_drew BR.out)
                  have n2_ := Aside0.mk (below_drew1 HB.out)
                  clear BP BR HB
                  have BP := n0_
                  have BR := n1_
                  have HB := n2_
                  clear n0_ n1_ n2_
                  refine start_ (n := 22) (S := fun w' => w'.cell? ⟨g, 4, none⟩ = some (.int .i64 R.f4) ∧ w'.cell? ⟨g, 5, none⟩ = some (.int .i64 R.f5) ∧ w'.cell? ⟨g, 17, none⟩ = some (.int .i64 R.f17)) (ds := []) #[false, false, false, false, false, false, false, false, false, false, false, false, false, false, false, false, false, false, false, false, false, false] (by kernel_rfl) rfl rfl ⟨(blk_cell BR.out 4).trans rfl, (blk_cell BR.out 5).trans rfl, (blk_cell BR.out 17).trans rfl⟩ (fun hHeld => ?_)
                  refine with_tabW ruleError.tab24 ruleError.bits24 (fun HT_ HW_ => ?_)
                  refine pure_ (i := 0) (N := some 167) (v := ?_) (a' := ?_) #[true, false, false, false, false, false, false, false, false, false, false, false, false, false, false, false, false, false, false, false, false, false] rfl rfl (any_of HT_.out (by kernel_rfl)) (fun _ _ _ h => h) (Or.inl ⟨by rfl, ?_⟩) ?_ ?_
                  rotate_left
                  · intro w'
                    go_simp
                    with_reducible rfl
                  rotate_left
                  · simp only [Act.put, List.setIfInBounds_toArray, List.set_cons_zero, List.set_cons_succ, i64_w, i32_w]
                    rfl
                  refine pure_ (i := 2) (N := some 169) (v := ?_) (a' := ?_) #[true, false, true, false, false, false, false, false, false, false, false, false, false, false, false, false, false, false, false, false, false, false] rfl rfl (any_of HT_.out (by kernel_rfl)) (fun _ _ _ h => h) (Or.inl ⟨by rfl, ?_⟩) ?_ ?_
                  rotate_left
                  · intro w'
                    go_simp
                    with_reducible rfl
                  rotate_left
                  · simp only [Act.put, List.setIfInBounds_toArray, List.set_cons_zero, List.set_cons_succ, i64_w, i32_w]
                    rfl
                  refine pure_ (i := 4) (N := some 171) (v := ?_) (a' := ?_) #[true, false, true, false, true, false, false, false, false, false, false, false, false, false, false, false, false, false, false, false, false, false] rfl rfl (any_of HT_.out (by kernel_rfl)) (fun _ _ _ h => h) (Or.inl ⟨by rfl, ?_⟩) ?_ ?_
                  rotate_left
                  · intro w'
                    go_simp
                    with_reducible rfl
                  rotate_left
                  · simp only [Act.put, List.setIfInBounds_toArray, List.set_cons_zero, List.set_cons_succ, i64_w, i32_w]
                    rfl
                  refine pure_ (i := 6) (N := some 173) (v := ?_) (a' := ?_) #[true, false, true, false, true, false, true, false, false, false, false, false, false, false, false, false, false, false, false, false, false, false] rfl rfl (any_of HT_.out (by kernel_rfl)) (fun _ _ _ h => h) (Or.inl ⟨by rfl, ?_⟩) ?_ ?_
                  rotate_left
                  · intro w'
                    go_simp
                    with_reducible rfl
                  rotate_left
                  · simp only [Act.put, List.setIfInBounds_toArray, List.set_cons_zero, List.set_cons_succ, i64_w, i32_w]
                    rfl
                  refine pure_ (i := 8) (N := some 175) (v := ?_) (a' := ?_) #[true, false, true, false, true, false, true, false, true, false, false, false, false, false, false, false, false, false, false, false, false, false] rfl rfl (any_of HT_.out (by kernel_rfl)) (fun _ _ _ h => h) (Or.inl ⟨by rfl, ?_⟩) ?_ ?_
                  rotate_left
                  · intro w'
                    go_simp
                    with_reducible rfl
                  rotate_left
                  · simp only [Act.put, List.setIfInBounds_toArray, List.set_cons_zero, List.set_cons_succ, i64_w, i32_w]
                    rfl
                  refine pure_ (i := 10) (N := some 177) (v := ?_) (a' := ?_) #[true, false, true, false, true, false, true, false, true, false, true, false, false, false, false, false, false, false, false, false, false, false] rfl rfl (any_of HT_.out (by kernel_rfl)) (fun _ _ _ h => h) (Or.inl ⟨by rfl, ?_⟩) ?_ ?_
                  rotate_left
                  · intro w'
                    go_simp
                    with_reducible rfl
                  rotate_left
                  · simp only [Act.put, List.setIfInBounds_toArray, List.set_cons_zero, List.set_cons_succ, i64_w, i32_w]
                    rfl
                  refine take_ (i := 1) (N := some 168) (v := ?_) (a' := ?_) #[true, true, true, false, true, false, true, false, true, false, true, false, false, false, false, false, false, false, false, false, false, false] rfl rfl (take_ofW HT_.out HW_.out (by kernel_rfl)) (fun _ _ _ h => h) (Or.inl ⟨by rfl, ?_⟩) hHeld ?_ ?_
                  rotate_left
                  · rintro w' ⟨s0, s1, s2⟩
                    go_simp
                    with_reducible rfl
                  rotate_left
                  · simp only [Act.put, List.setIfInBounds_toArray, List.set_cons_zero, List.set_cons_succ, i64_w, i32_w]
                    rfl
                  refine take_ (i := 5) (N := some 172) (v := ?_) (a' := ?_) #[true, true, true, false, true, true, true, false, true, false, true, false, false, false, false, false, false, false, false, false, false, false] rfl rfl (take_ofW HT_.out HW_.out (by kernel_rfl)) (fun _ _ _ h => h) (Or.inl ⟨by rfl, ?_⟩) hHeld ?_ ?_
                  rotate_left
                  · rintro w' ⟨s0, s1, s2⟩
                    go_simp
                    with_reducible rfl
                  rotate_left
                  · simp only [Act.put, List.setIfInBounds_toArray, List.set_cons_zero, List.set_cons_succ, i64_w, i32_w]
                    rfl
                  refine take_ (i := 9) (N := some 176) (v := ?_) (a' := ?_) #[true, true, true, false, true, true, true, false, true, true, true, false, false, false, false, false, false, false, false, false, false, false] rfl rfl (take_ofW HT_.out HW_.out (by kernel_rfl)) (fun _ _ _ h => h) (Or.inl ⟨by rfl, ?_⟩) hHeld ?_ ?_
                  rotate_left
                  · rintro w' ⟨s0, s1, s2⟩
                    go_simp
                    with_reducible rfl
                  rotate_left
                  · simp only [Act.put, List.setIfInBounds_toArray, List.set_cons_zero, List.set_cons_succ, i64_w, i32_w]
                    rfl
                  refine pure_ (i := 11) (N := some 178) (v := ?_) (a' := ?_) #[true, true, true, false, true, true, true, false, true, true, true, true, false, false, false, false, false, false, false, false, false, false] rfl rfl (any_of HT_.out (by kernel_rfl)) (fun _ _ _ h => h) (Or.inl ⟨by rfl, ?_⟩) ?_ ?_
                  rotate_left
                  · intro w'
                    go_simp
                    with_reducible rfl
                  rotate_left
                  · simp only [Act.put, List.setIfInBounds_toArray, List.set_cons_zero, List.set_cons_succ, i64_w, i32_w]
                    rfl
                  refine one_ (i := 3) (N := some 170) #[true, true, true, true, true, true, true, false, true, true, true, true, false, false, false, false, false, false, false, false, false, false] rfl rfl (one_of HT_.out (by kernel_rfl)) (by decide) (fun K hK => ?_)
                  refine goes_ Tryd.func57 (by kernel_rfl) rfl #[.int .i64 R.f4, .int .i64 (P.f2.length : Int)] (by rfl) rfl rfl (by first | rfl | (simp only [List.map_toArray, List.map_cons, List.map_nil]; rfl)) ?_
                  refine (idx_any _ _ _).mono ?_
                  rintro e w' ⟨rfl, rfl⟩
                  refine ⟨_, rfl, ?_⟩
                  refine hK.out _ _ ⟨(blk_cell BR.out 4).trans rfl, (blk_cell BR.out 5).trans rfl, (blk_cell BR.out 17).trans rfl⟩ (fun hHeld => ?_)
                  clear hK K
                  refine norm_ (a' := ?_) ?_ ?_
                  rotate_left
                  · show Act.put _ (some 170) _ = _
                    simp only [Act.put, List.setIfInBounds_toArray, List.set_cons_zero, List.set_cons_succ, i64_w, i32_w]
                    rfl
                  refine one_ (i := 7) (N := some 174) #[true, true, true, true, true, true, true, true, true, true, true, true, false, false, false, false, false, false, false, false, false, false] rfl rfl (one_of HT_.out (by kernel_rfl)) (by decide) (fun K hK => ?_)
                  refine goes_ Tryd.func57 (by kernel_rfl) rfl #[.int .i64 R.f5, .int .i64 (P.f2.length : Int)] (by rfl) rfl rfl (by first | rfl | (simp only [List.map_toArray, List.map_cons, List.map_nil]; rfl)) ?_
                  refine (idx_any _ _ _).mono ?_
                  rintro e w' ⟨rfl, rfl⟩
                  refine ⟨_, rfl, ?_⟩
                  refine hK.out _ _ ⟨(blk_cell BR.out 4).trans rfl, (blk_cell BR.out 5).trans rfl, (blk_cell BR.out 17).trans rfl⟩ (fun hHeld => ?_)
                  clear hK K
                  refine norm_ (a' := ?_) ?_ ?_
                  rotate_left
                  · show Act.put _ (some 174) _ = _
                    simp only [Act.put, List.setIfInBounds_toArray, List.set_cons_zero, List.set_cons_succ, i64_w, i32_w]
                    rfl
                  refine pure_ (i := 12) (N := some 179) (v := ?_) (a' := ?_) #[true, true, true, true, true, true, true, true, true, true, true, true, true, false, false, false, false, false, false, false, false, false] rfl rfl (any_of HT_.out (by kernel_rfl)) (fun _ _ _ h => h) (Or.inl ⟨by rfl, ?_⟩) ?_ ?_
                  rotate_left
                  · intro w'
                    go_simp
                    with_reducible rfl
                  rotate_left
                  · simp only [Act.put, List.setIfInBounds_toArray, List.set_cons_zero, List.set_cons_succ, i64_w, i32_w]
                    rfl
                  refine pure_ (i := 13) (N := some 180) (v := ?_) (a' := ?_) #[true, true, true, true, true, true, true, true, true, true, true, true, true, true, false, false, false, false, false, false, false, false] rfl rfl (any_of HT_.out (by kernel_rfl)) (fun _ _ _ h => h) (Or.inl ⟨by rfl, ?_⟩) ?_ ?_
                  rotate_left
                  · intro w'
                    go_simp
                    with_reducible rfl
                  rotate_left
                  · simp only [Act.put, List.setIfInBounds_toArray, List.set_cons_zero, List.set_cons_succ, i64_w, i32_w]
                    rfl
                  refine pure_ (i := 15) (N := some 182) (v := ?_) (a' := ?_) #[true, true, true, true, true, true, true, true, true, true, true, true, true, true, false, true, false, false, false, false, false, false] rfl rfl (any_of HT_.out (by kernel_rfl)) (fun _ _ _ h => h) (Or.inl ⟨by rfl, ?_⟩) ?_ ?_
                  rotate_left
                  · intro w'
                    go_simp
                    with_reducible rfl
                  rotate_left
                  · simp only [Act.put, List.setIfInBounds_toArray, List.set_cons_zero, List.set_cons_succ, i64_w, i32_w]
                    rfl
                  refine take_ (i := 14) (N := some 181) (v := ?_) (a' := ?_) #[true, true, true, true, true, true, true, true, true, true, true, true, true, true, true, true, false, false, false, false, false, false] rfl rfl (take_ofW HT_.out HW_.out (by kernel_rfl)) (fun _ _ _ h => h) (Or.inl ⟨by rfl, ?_⟩) hHeld ?_ ?_
                  rotate_left
                  · rintro w' ⟨s0, s1, s2⟩
                    go_simp
                    with_reducible rfl
                  rotate_left
                  · simp only [Act.put, List.setIfInBounds_toArray, List.set_cons_zero, List.set_cons_succ, i64_w, i32_w]
                    rfl
                  refine pure_ (i := 16) (N := some 183) (v := ?_) (a' := ?_) #[true, true, true, true, true, true, true, true, true, true, true, true, true, true, true, true, true, false, false, false, false, false] rfl rfl (any_of HT_.out (by kernel_rfl)) (fun _ _ _ h => h) (Or.inl ⟨by rfl, ?_⟩) ?_ ?_
                  rotate_left
                  · intro w'
                    go_simp
                    with_reducible rfl
                  rotate_left
                  · simp only [Act.put, List.setIfInBounds_toArray, List.set_cons_zero, List.set_cons_succ, i64_w, i32_w]
                    rfl
                  refine pure_ (i := 17) (N := some 184) (v := ?_) (a' := ?_) #[true, true, true, true, true, true, true, true, true, true, true, true, true, true, true, true, true, true, false, false, false, false] rfl rfl (any_of HT_.out (by kernel_rfl)) (fun _ _ _ h => h) (Or.inl ⟨by rfl, ?_⟩) ?_ ?_
                  rotate_left
                  · intro w'
                    go_simp
                    with_reducible rfl
                  rotate_left
                  · simp only [Act.put, List.setIfInBounds_toArray, List.set_cons_zero, List.set_cons_succ, i64_w, i32_w]
                    rfl
                  refine one_ (i := 18) (N := some 185) #[true, true, true, true, true, true, true, true, true, true, true, true, true, true, true, true, true, true, true, false, false, false] rfl rfl (one_of HT_.out (by kernel_rfl)) (by decide) (fun K hK => ?_)
                  refine goes_ Tryd.func35 (by kernel_rfl) rfl #[.bool (decide (hi2 < R.f17)), .int .i64 1] (by rfl) rfl rfl (by first | rfl | (simp only [List.map_toArray, List.map_cons, List.map_nil]; rfl)) ?_
                  refine (when_any _ _ _).mono ?_
                  rintro e w' ⟨rfl, rfl⟩
                  refine ⟨_, rfl, ?_⟩
                  refine hK.out _ _ ⟨(blk_cell BR.out 4).trans rfl, (blk_cell BR.out 5).trans rfl, (blk_cell BR.out 17).trans rfl⟩ (fun hHeld => ?_)
                  clear hK K
                  refine norm_ (a' := ?_) ?_ ?_
                  rotate_left
                  · show Act.put _ (some 185) _ = _
                    simp only [Act.put, List.setIfInBounds_toArray, List.set_cons_zero, List.set_cons_succ, i64_w, i32_w]
                    rfl
                  refine one_ (i := 19) (N := some 186) #[true, true, true, true, true, true, true, true, true, true, true, true, true, true, true, true, true, true, true, true, false, false] rfl rfl (one_of HT_.out (by kernel_rfl)) (by decide) (fun K hK => ?_)
                  refine Kd.R_lit_step (Kd.int .i64) _ 36 ?hg (N := 186) ?hd (xs := ([(idxE R.f4 (P.f2.length : Int)), (idxE R.f5 (P.f2.length : Int)), (whenE (decide (hi2 < R.f17)) 1)] : List Int)) (inner := [.int .i64 (idxE R.f4 (P.f2.length : Int)), .int .i64 (idxE R.f5 (P.f2.length : Int)), .int .i64 (whenE (decide (hi2 < R.f17)) 1)]) (ok := fun _ => True) (okp := fun _ => True) ?hr ?hp (fun _ hk => hk) trivial (Below.refl _ _) (Nat.le_refl _) (by simp) ?_; (case hd => rfl); (case hg => rfl); (case hr => first | (go_simp; done) | (go_simp; rfl)); (case hp => exact (Reps.one (show Kd.M (Kd.int .i64) _ _ _ (idxE R.f4 (P.f2.length : Int)) [.int .i64 (idxE R.f4 (P.f2.length : Int))] from rfl) (Reps.one (show Kd.M (Kd.int .i64) _ _ _ (idxE R.f5 (P.f2.length : Int)) [.int .i64 (idxE R.f5 (P.f2.length : Int))] from rfl) (Reps.one (show Kd.M (Kd.int .i64) _ _ _ (whenE (decide (hi2 < R.f17)) 1) [.int .i64 (whenE (decide (hi2 < R.f17)) 1)] from rfl) (Reps.none _ _)))))
                  intro vL wL ho hb hg_ hnew_
                  clear hg_ hnew_
                  obtain ⟨aL, cL, rfl⟩ := Kd.R_slice ho
                  have HL := Aside0.mk (Kd.R_reads' ho)
                  clear ho
                  have n0_ := Aside0.mk (blk_below BP.out hb)
                  have n1_ := Aside0.mk (blk_below BR.out hb)
                  have n2_ := Aside0.mk (HB.out.trans (Below.mono hb HB.out.size))
                  clear BP BR HB
                  have BP := n0_
                  have BR := n1_
                  have HB := n2_
                  clear n0_ n1_ n2_
                  clear hb
                  refine hK.out _ _ ⟨(blk_cell BR.out 4).trans rfl, (blk_cell BR.out 5).trans rfl, (blk_cell BR.out 17).trans rfl⟩ (fun hHeld => ?_)
                  clear hK K
                  refine norm_ (a' := ?_) ?_ ?_
                  rotate_left
                  · show Act.put _ (some 186) _ = _
                    simp only [Act.put, List.setIfInBounds_toArray, List.set_cons_zero, List.set_cons_succ, i64_w, i32_w]
                    rfl
                  refine one_ (i := 20) (N := some 187) #[true, true, true, true, true, true, true, true, true, true, true, true, true, true, true, true, true, true, true, true, true, false] rfl rfl (one_of HT_.out (by kernel_rfl)) (by decide) (fun K hK => ?_)
                  refine goes_ Tryd.func22 (by kernel_rfl) rfl #[.slice aL 3 cL] (by rfl) rfl rfl (by first | rfl | (simp only [List.map_toArray, List.map_cons, List.map_nil]; rfl)) ?_
                  refine (first_any _ _ [(idxE R.f4 (P.f2.length : Int)), (idxE R.f5 (P.f2.length : Int)), (whenE (decide (hi2 < R.f17)) 1)] _ HL.out.2.2).mono ?_
                  rintro e w' ⟨rfl, rfl⟩
                  refine ⟨_, rfl, ?_⟩
                  refine hK.out _ _ ⟨(blk_cell BR.out 4).trans rfl, (blk_cell BR.out 5).trans rfl, (blk_cell BR.out 17).trans rfl⟩ (fun hHeld => ?_)
                  clear hK K
                  refine norm_ (a' := ?_) ?_ ?_
                  rotate_left
                  · show Act.put _ (some 187) _ = _
                    simp only [Act.put, List.setIfInBounds_toArray, List.set_cons_zero, List.set_cons_succ, i64_w, i32_w]
                    rfl
                  refine pure_ (i := 21) (N := some 4) (v := ?_) (a' := ?_) #[true, true, true, true, true, true, true, true, true, true, true, true, true, true, true, true, true, true, true, true, true, true] rfl rfl (any_of HT_.out (by kernel_rfl)) (fun _ _ _ h => h) (Or.inl ⟨by rfl, ?_⟩) ?_ ?_
                  rotate_left
                  · intro w'
                    go_simp
                    with_reducible rfl
                  rotate_left
                  · simp only [Act.put, List.setIfInBounds_toArray, List.set_cons_zero, List.set_cons_succ, i64_w, i32_w]
                    rfl
                  refine done_ (done_of HT_.out (by kernel_rfl)) ?_
                  go_wp2_with fail
                  go_ret
                  exact ⟨by rw [HRR.out, ← HE.out]; rfl, HB.out⟩
            · have d0 : (q != 0) = true := bne_iff_ne.mpr h0
              rw [if_neg h0] at HE2
              have HE := Aside0.mk HE2
              clear HE2
              go_wp2_with fail
              go_ret
              exact ⟨by rw [HRR.out, ← HE.out]; rfl, HB.out⟩
end Go.Proofs.YtoggkfapdomhgaaDoor.Pr
