/- The walk of the specification's ParseRow: it returns what linear.ParseRow returns; conditions: the text's size. -/
import Derived.Test.YthgnpbaldhemiaaDoorRl
import Derived.Test.YthgnpbaldhemiaaDoorRi
import Derived.Test.YthgnpbaldhemiaaDoorHg
import Derived.BigQuiet
namespace Go.Proofs.YthgnpbaldhemiaaDoor.Pr
open Go.RowKit Go.Proofs.YthgnpbaldhemiaaDoorW.PrintWords Go.Proofs.YthgnpbaldhemiaaDoorW.PrintLast Go.Proofs.YthgnpbaldhemiaaDoorW.PrintMore
set_option linter.unusedVariables false
set_option linter.unusedSimpArgs false

theorem ref_in {v : Int} (h0 : 0 ≤ v) (h1 : v ≤ 96) : familycheckref01_within.f v 0 96 = some true := by
  unfold familycheckref01_within.f
  rw [if_pos (by omega), decide_eq_true h1]
theorem ref_out {v : Int} (h : v < 0 ∨ 96 < v) : familycheckref01_within.f v 0 96 = some false := by
  unfold familycheckref01_within.f
  by_cases h0 : v ≥ 0
  · rw [if_pos h0, decide_eq_false (by omega)]
  · rw [if_neg h0]
theorem wr1 {q : Nat} (h : q ≤ 4000) : wrap64 ((q : Int) + 1) = (q : Int) + 1 := by rw [IntWalk.wrap64_in _ (by omega)]
theorem wr2 {q : Nat} (h : q ≤ 4000) : wrap64 ((q : Int) + 2) = (q : Int) + 2 := by rw [IntWalk.wrap64_in _ (by omega)]
theorem wr3 {q : Nat} (h : q ≤ 4000) : wrap64 ((q : Int) + 3) = (q : Int) + 3 := by rw [IntWalk.wrap64_in _ (by omega)]
theorem sp_in {q z : Nat} (h : q + 3 ≤ z) : decide ((z : Int) < (q : Int) + 3) = false ∧ ((q : Int) < (z : Int)) = True ∧ (0 ≤ (q : Int) + 1) = True ∧ ((q : Int) + 1 < (z : Int)) = True ∧ (0 ≤ (q : Int) + 2) = True ∧ ((q : Int) + 2 < (z : Int)) = True :=
  ⟨decide_eq_false (by omega), eq_true (by omega), eq_true (by omega), eq_true (by omega), eq_true (by omega), eq_true (by omega)⟩
theorem sp_out {q z : Nat} (h : ¬ q + 3 ≤ z) : decide ((z : Int) < (q : Int) + 3) = true := decide_eq_true (by omega)
theorem drop_extract (s : ByteArray) (q : Nat) : (s.extract q s.size).toList = s.data.toList.drop q := by
  rw [ByteArray.toList_eq]
  simp only [ByteArray.data_extract, Array.toList_extract, List.extract_eq_take_drop]
  exact List.take_of_length_le (by simp)

set_option maxHeartbeats 2000000 in
set_option maxRecDepth 100000 in
theorem ref_range (v : Int) (s : ByteArray) (w : World) (hv : v < 0 ∨ 96 < v) :
    Calls Tryd.prog 7 #[.int .i64 v, .string s] w (RowPost w (parseF v s.data.toList)) := by
  have HW := Aside0.mk (ref_out hv)
  have HP : Aside0 (parseF v s.data.toList = ([], 0, 1)) := ⟨by simp only [parseF]; rw [if_pos hv]⟩
  clear hv
  go_enter Tryd.func7, Tryd.ntmps7
  go_wp2_with fail
  refine (familycheckref01_within.calls v 0 96 false _ HW.out).mono ?_
  rintro e w1 ⟨rfl, ⟨m, rfl⟩⟩
  go_wp2_with fail
  refine bodyPost_ret (v := .tuple #[.agg #[.slice none 0 0, .int .i64 0], .int .i64 1]) (by simp [results, Tryd.results7, go_sem]) rfl ?_
  refine RowPost.zero HP.out ?_
  exact ((below_drewN ((Below.refl _ _).alloc (Nat.le_refl _) _) m).setCell (by simp) _).setCell (by simp) _
set_option maxHeartbeats 4000000 in
set_option maxRecDepth 100000 in
theorem ref_main (n : Nat) (s : ByteArray) (w : World) (hn : n ≤ 96) (hs : s.size ≤ 4000) :
    Calls Tryd.prog 7 #[.int .i64 n, .string s] w (RowPost w (parseF n s.data.toList)) := by
  have HW := Aside0.mk (ref_in (v := n) (by omega) (by omega))
  have h3 : (s.size : Int) ≤ 4000 := by omega
  obtain ⟨i0, hi0, hz0, hz1, hz2⟩ := info_parts info3
  go_enter Tryd.func7, Tryd.ntmps7
  go_wp2_with fail
  refine (familycheckref01_within.calls n 0 96 true _ HW.out).mono ?_
  rintro e w0 ⟨rfl, ⟨m, hw0⟩⟩
  have HB0 : Aside0 (Below w.heap.size w w0) := ⟨by rw [hw0]; exact below_drewN ((Below.refl _ _).alloc (Nat.le_refl _) _) m⟩
  have HR0 : Aside0 (w0.heap[w.heap.size]? = some (.cells #[.slice none 0 0, .int .i64 0] 25 (0, 0))) := ⟨by rw [hw0]; exact heap_new w _⟩
  have hs0 : w0.heap.size = w.heap.size + 1 := by rw [hw0]; show (w.alloc _).heap.size = _; simp
  clear hw0
  go_wp2_with ((with_reducible refine wpList_make_full _ rfl (.tmp 21) (.tmp 21) 23 rfl (w.heap.size + 1) 3 i0 (.int .i64 0) 1 Tryd.underlying23 hi0 hz0 hz1 .i64 .i64 n n n rfl rfl rfl rfl ?c1 ?c2 ?c3 ?_))
  case c1 => rw [hz2]; omega
  case c2 => unfold maxLen; omega
  case c3 => omega
  intro w1 ho hg
  replace ho : w1.ownsRow (w.heap.size + 1) 3 1 (.slice (some ⟨w.heap.size + 1, 0, none⟩) n n) n _ := ho
  have HB1 : Aside0 (Below (w.heap.size + 1) w0 w1) := ⟨⟨hg.os, hg.tape, hg.output, hg.size, fun k hk => hg.block k (by rw [hs0]; exact hk) (by simp)⟩⟩
  have HBw : Aside0 (Below w.heap.size w w1) := ⟨HB0.out.trans (HB1.out.mono (by omega))⟩
  have hco := own_made ho
  have hw1 := own_lt ho (w.heap.size + 1) (by simp [Value.ownBlock])
  have HR1 : Aside0 (w1.heap[w.heap.size]? = some (.cells #[.slice none 0 0, .int .i64 0] 25 (0, 0))) := ⟨(HB1.out.block _ (by omega)).trans HR0.out⟩
  have HC1 : Aside0 (w1.heap[w.heap.size + 1]? = some (.cells (nums .i64 (List.replicate n 0)).toArray 3 (0, 0))) := ⟨by rw [hco]; simp [nums, madeCells, Nat.mod_one, List.map_const']⟩
  clear ho hg hco HB1 HB0 HR0
  have hw1' : w.heap.size < w1.heap.size := by omega
  obtain ⟨w2, hw2⟩ : ∃ w2, w2 = w1.alloc (Obj.cells #[.slice (some ⟨w.heap.size + 1, 0, none⟩) n n, .int .i64 0] 25) := ⟨_, rfl⟩
  have HB2 : Aside0 (Below w1.heap.size w1 w2) := ⟨by rw [hw2]; exact (Below.refl _ _).alloc (Nat.le_refl _) _⟩
  have HBw2 : Aside0 (Below w.heap.size w w2) := ⟨HBw.out.trans (HB2.out.mono (by omega))⟩
  have HR2 := Aside0.mk (blk_below HR1.out HB2.out)
  have HSt : Aside0 (RowSt w2 w1.heap.size (w.heap.size + 1) (List.replicate n 0) 0) := ⟨⟨by rw [hw2, List.length_replicate]; exact heap_new _ _, blk_below HC1.out HB2.out, by omega⟩⟩
  go_upto_region 7 with (fail)
  rw [← hw2]
  clear hw2 HB2 HR1 HC1 HBw
  go_cut [31] (fun v31 wc => ∃ b : Bool, v31 = .bool b ∧ Aside0 (b = true ↔ (0 < s.size ∧ bt s 0 = 45)) ∧ Drawn0 w2 wc)
  case first =>
    by_cases c1 : 0 < s.size
    · have c1b : decide ((0 : Int) < (s.size : Int)) = true := decide_eq_true (by omega)
      have p3 := eq_true (show (0 : Int) < (s.size : Int) by omega)
      have p4 := eq_true c1
      have hx : ∀ h : 0 < s.size, ((s[0]'h).toNat : Int) = bt s 0 := fun h => by simp [bt, h]
      by_cases c2 : bt s 0 = 45
      · have c2b : (bt s 0 == 45) = true := beq_iff_eq.mpr c2
        go_wp2
        go_meet
        exact ⟨true, (by first | rfl | (simp; done) | (simp [*]; done)), ⟨by simp [c1, c2]⟩, by repeat (first | exact Drawn0.refl _ | apply Drawn0.step)⟩
      · have c2b : (bt s 0 == 45) = false := beq_eq_false_iff_ne.mpr c2
        go_wp2
        go_meet
        exact ⟨false, (by first | rfl | (simp; done) | (simp [*]; done)), ⟨by simp [c2]⟩, by repeat (first | exact Drawn0.refl _ | apply Drawn0.step)⟩
    · have c1b : decide ((0 : Int) < (s.size : Int)) = false := decide_eq_false (by omega)
      go_wp2
      go_meet
      exact ⟨false, (by first | rfl | (simp; done) | (simp [*]; done)), ⟨by simp; intro; omega⟩, by repeat (first | exact Drawn0.refl _ | apply Drawn0.step)⟩
  case rest =>
    obtain ⟨b, rfl, HC, hd⟩ := hcut
    have HD := Aside0.mk hd
    clear hd
    go_upto_if 31 with (fail)
    go_cut [7, 8] (fun v7 v8 wc => ∃ (sg : Int) (a : Nat), v7 = .int .i64 sg ∧ v8 = .int .i64 (a : Int) ∧ a ≤ s.size ∧ Aside0 (Inv s a sg (List.replicate n 0) 0) ∧ Aside0 (Drawn0 w2 wc))
    case first =>
      cases b
      · go_wp2_with fail
        go_meet
        exact ⟨1, 0, rfl, rfl, Nat.zero_le _, ⟨Inv.pos (fun h => by simpa using HC.out.2 h)⟩, HD⟩
      · go_wp2_with fail
        go_meet
        exact ⟨-1, 1, rfl, rfl, (HC.out.1 (by first | rfl | trivial)).1, ⟨Inv.neg (HC.out.1 (by first | rfl | trivial)).2⟩, HD⟩
    case rest =>
      clear HD HC
      obtain ⟨sg, a, rfl, rfl, ha, HI, HD⟩ := hcut
      have HB3 : Aside0 (Below w.heap.size w wc) := ⟨by obtain ⟨m, rfl⟩ := HD.out; exact below_drewN HBw2.out m⟩
      have HR3 : Aside0 (wc.heap[w.heap.size]? = some (.cells #[.slice none 0 0, .int .i64 0] 25 (0, 0))) := ⟨by obtain ⟨m, rfl⟩ := HD.out; exact HR2.out⟩
      have HSt3 := Aside0.mk (HSt.out.drawn HD.out)
      clear HD HBw2 HR2 HSt
      go_wp2_with fail
      go_loopw [7, 8] (fun v7 v8 W => ∃ (sg : Int) (a : Nat) (cs : List Int) (k : Int), v7 = .int .i64 sg ∧ v8 = .int .i64 (a : Int) ∧ a ≤ s.size ∧ Aside0 (cs.length = n) ∧ Aside0 (Inv s a sg cs k) ∧ Aside0 (RowSt W w1.heap.size (w.heap.size + 1) cs k) ∧ Aside0 (Below w.heap.size w W) ∧ Aside0 (W.heap[w.heap.size]? = some (.cells #[.slice none 0 0, .int .i64 0] 25 (0, 0)))) (fun _ v8 _ => s.size - (intOf v8).toNat)
      case atStart => exact ⟨sg, a, List.replicate n 0, 0, rfl, rfl, ha, ⟨by simp⟩, HI, HSt3, HB3, HR3⟩
      case round =>
        clear HI HSt3 HB3 HR3
        obtain ⟨sg, a, cs, k, rfl, rfl, ha, hcn, HI, HSr, HBr, HRr⟩ := hrel
        have hc96 : cs.length ≤ 96 := by rw [hcn.out]; exact hn
        go_wp2_with fail
        refine (readItem_any s (by omega) a ha _ _ cs k sg _ hc96 HSr.out).mono ?_
        rintro e w4 ⟨nx, ok, cs', k', rfl, HRd, hst4, hk4⟩
        have HA := Aside0.mk (Inv.read (by omega) hc96 HI.out HRd.out)
        have hany := HRd.out.any (by omega)
        have HL4 := Aside0.mk (hany.1.trans hcn.out)
        have HB4 := Aside0.mk (HBr.out.trans (hk4.below (by omega) (by omega) HBr.out.size))
        have hwr : w.heap.size < wr.heap.size := blk_lt HRr.out
        have HR4 : Aside0 (w4.heap[w.heap.size]? = some (.cells #[.slice none 0 0, .int .i64 0] 25 (0, 0))) := ⟨(hk4.block _ hwr (by omega) (by omega)).trans HRr.out⟩
        have HS4 := Aside0.mk hst4
        have hany2 := Aside0.mk hany.2
        clear hk4 hst4 hany HI HSr HBr HRr HRd
        have hcz0 : w4.cell? ⟨w.heap.size, 0, none⟩ = some (.slice none 0 0) := (blk_cell HR4.out 0).trans rfl
        have hcz1 : w4.cell? ⟨w.heap.size, 1, none⟩ = some (.int .i64 0) := (blk_cell HR4.out 1).trans rfl
        have hfz0 := blk_frozen HR4.out 0
        have hfz1 := blk_frozen HR4.out 1
        cases ok
        · have HF : Aside0 (parseF (n : Int) s.data.toList = ([], 0, 3)) := ⟨parse_bad hn hs (by have := HA.out.1 rfl; rwa [hcn.out] at this)⟩
          clear HA hany2
          go_wp2_with fail
          refine bodyPost_ret (v := .tuple #[.agg #[.slice none 0 0, .int .i64 0], .int .i64 3]) (by simp [results, Tryd.results7, go_sem, hcz0, hcz1]) rfl (RowPost.zero HF.out ?_); exact (HB4.out.setCell (by simp) _).setCell (by simp) _
        · obtain ⟨q, rfl, hq1, hq2⟩ := hany2.out rfl
          have HAf := Aside0.mk (HA.out.2 q rfl)
          clear HA hany2
          have htx := Aside0.mk (drop_extract s q)
          have p1 := eq_true (show 0 ≤ (q : Int) by omega)
          have p2 := eq_true (show (q : Int) ≤ (s.size : Int) by omega)
          by_cases he : s.data.toList.drop q = endS
          · have heb : ((s.extract q s.size).toList == ([32, 62, 61, 32, 48] : List UInt8)) = true := by rw [htx.out, he]; rfl
            have hrz0 : w4.cell? ⟨w1.heap.size, 0, none⟩ = some (.slice (some ⟨w.heap.size + 1, 0, none⟩) cs'.length cs'.length) := (blk_cell HS4.out.row 0).trans rfl
            have hrz1 : w4.cell? ⟨w1.heap.size, 1, none⟩ = some (.int .i64 k') := (blk_cell HS4.out.row 1).trans rfl
            have HE := Aside0.mk he
            clear he
            go_wp2_with fail
            obtain ⟨ff, hff⟩ := ref_format cs' k'
            rw [if_neg (by rw [HL4.out]; omega)] at hff
            have hc96' : cs'.length ≤ 96 := by rw [HL4.out]; exact hn
            by_cases hsm : smallB cs' k' = true
            · rw [if_pos hsm] at hff
              refine (familycheckref01_FormatRow.calls ff _ _ cs' k' (S (rowL cs' k')) 0 _ (HS4.out.reads hc96') (Nat.le_refl _) hff).mono ?_
              rintro e w5 ⟨rfl, hb5⟩
              have HB5 := Aside0.mk (HB4.out.trans (hb5.mono HB4.out.size))
              have HR5 := Aside0.mk (blk_below HR4.out hb5)
              have HS5 := Aside0.mk (HS4.out.below hb5)
              clear hb5 hff hcz0 hcz1 hfz0 hfz1 hrz0 hrz1
              have hcz0 : w5.cell? ⟨w.heap.size, 0, none⟩ = some (.slice none 0 0) := (blk_cell HR5.out 0).trans rfl
              have hcz1 : w5.cell? ⟨w.heap.size, 1, none⟩ = some (.int .i64 0) := (blk_cell HR5.out 1).trans rfl
              have hfz0 := blk_frozen HR5.out 0
              have hfz1 := blk_frozen HR5.out 1
              have hry0 : w5.cell? ⟨w1.heap.size, 0, none⟩ = some (.slice (some ⟨w.heap.size + 1, 0, none⟩) cs'.length cs'.length) := (blk_cell HS5.out.row 0).trans rfl
              have hry1 : w5.cell? ⟨w1.heap.size, 1, none⟩ = some (.int .i64 k') := (blk_cell HS5.out.row 1).trans rfl
              have hts : Aside0 ((S (rowL cs' k')).toList = rowL cs' k') := ⟨S_list _⟩
              have htt := Aside0.mk (ByteArray.toList_eq s)
              generalize hRS : S (rowL cs' k') = rs at hts ⊢
              clear hRS
              by_cases heq : rowL cs' k' = s.data.toList
              · have e1 : (rs.toList == s.toList) = true := by rw [hts.out, htt.out, heq]; exact beq_self_eq_true _
                have e2 : (rs.toList != s.toList) = false := by rw [hts.out, htt.out, heq]; simp
                have HF : Aside0 (parseF (n : Int) s.data.toList = (cs', k', 0)) := ⟨parse_good hn ⟨HL4.out, hsm, heq⟩⟩
                clear heq hsm
                go_wp2_with fail
                refine bodyPost_ret (v := .tuple #[.agg #[.slice (some ⟨w.heap.size + 1, 0, none⟩) cs'.length cs'.length, .int .i64 k'], .int .i64 0]) (by simp [results, Tryd.results7, go_sem, hcz0, hcz1]) rfl ?_
                rw [HF.out]
                refine ⟨_, rfl, ?_, (HB5.out.setCell (by simp) _).setCell (by simp) _⟩
                have := HS5.out.own (B := w.heap.size) (by omega) hc96'
                exact Kd.R_far (Kd.R_far (Kd.R_mono (ok' := fun k => k ≠ w.heap.size) (Kd.R_tight rfl this) (fun k hk => by simp [Value.ownBlock] at hk; omega)) (fun _ h => h) _) (fun _ h => h) _ |> fun h => Kd.R_mono h (fun _ _ => trivial)
              · have e1 : (rs.toList == s.toList) = false := by rw [hts.out, htt.out]; simpa using heq
                have e2 : (rs.toList != s.toList) = true := by rw [hts.out, htt.out]; simpa using heq
                have HF : Aside0 (parseF (n : Int) s.data.toList = ([], 0, 3)) := ⟨parse_bad hn hs (by have := HAf.out.row HE.out (fun h => heq h.2); rwa [HL4.out] at this)⟩
                clear heq hsm
                go_wp2_with fail
                refine bodyPost_ret (v := .tuple #[.agg #[.slice none 0 0, .int .i64 0], .int .i64 3]) (by simp [results, Tryd.results7, go_sem, hcz0, hcz1]) rfl (RowPost.zero HF.out ?_); exact (HB5.out.setCell (by simp) _).setCell (by simp) _
            · rw [if_neg hsm] at hff
              refine (familycheckref01_FormatRow.calls ff _ _ cs' k' (S []) 4 _ (HS4.out.reads hc96') (Nat.le_refl _) hff).mono ?_
              rintro e w5 ⟨rfl, hb5⟩
              have HB5 := Aside0.mk (HB4.out.trans (hb5.mono HB4.out.size))
              have HR5 := Aside0.mk (blk_below HR4.out hb5)
              clear hb5 hff hcz0 hcz1 hfz0 hfz1 hrz0 hrz1
              have hcz0 : w5.cell? ⟨w.heap.size, 0, none⟩ = some (.slice none 0 0) := (blk_cell HR5.out 0).trans rfl
              have hcz1 : w5.cell? ⟨w.heap.size, 1, none⟩ = some (.int .i64 0) := (blk_cell HR5.out 1).trans rfl
              have hfz0 := blk_frozen HR5.out 0
              have hfz1 := blk_frozen HR5.out 1
              have HF : Aside0 (parseF (n : Int) s.data.toList = ([], 0, 3)) := ⟨parse_bad hn hs (by have := HAf.out.row HE.out (fun h => hsm h.1); rwa [HL4.out] at this)⟩
              clear hsm
              go_wp2_with fail
              refine bodyPost_ret (v := .tuple #[.agg #[.slice none 0 0, .int .i64 0], .int .i64 3]) (by simp [results, Tryd.results7, go_sem, hcz0, hcz1]) rfl (RowPost.zero HF.out ?_); exact (HB5.out.setCell (by simp) _).setCell (by simp) _
          · have heb : ((s.extract q s.size).toList == ([32, 62, 61, 32, 48] : List UInt8)) = false := by rw [htx.out, beq_eq_false_iff_ne]; exact he
            have HE := Aside0.mk he
            clear he
            go_upto_region 13 with (fail)
            go_cut [77] (fun v77 wc => ∃ b : Bool, v77 = .bool b ∧ Aside0 (b = false ↔ (q + 3 ≤ s.size ∧ bt s q = 32 ∧ (bt s ((q + 1 : Nat) : Int) = 43 ∨ bt s ((q + 1 : Nat) : Int) = 45) ∧ bt s ((q + 2 : Nat) : Int) = 32)) ∧ Drawn0 w4 wc)
            case first =>
              clear hcz0 hcz1 hfz0 hfz1 HB4 HR4 HS4 HL4 HAf htx heb HE
              have x0 := bt_nat s q
              have x1 : ∀ h : q + 1 < s.size, ((s[q + 1]'h).toNat : Int) = bt s ((q + 1 : Nat) : Int) := bt_nat s (q + 1)
              have x2 : ∀ h : q + 2 < s.size, ((s[q + 2]'h).toNat : Int) = bt s ((q + 2 : Nat) : Int) := bt_nat s (q + 2)
              generalize hb0 : bt s (q : Int) = b0 at x0
              generalize hb1 : bt s ((q + 1 : Nat) : Int) = b1 at x1
              generalize hb2 : bt s ((q + 2 : Nat) : Int) = b2 at x2
              by_cases c1 : q + 3 ≤ s.size
              · obtain ⟨d1, p3, p4, p5, p6, p7⟩ := sp_in c1
                by_cases g0 : b0 = 32
                · have d2 : (b0 != 32) = false := bne_eq_false_iff_eq.mpr g0
                  by_cases g1 : b1 = 43
                  · have d3 : (b1 != 43) = false := bne_eq_false_iff_eq.mpr g1
                    by_cases g2 : b2 = 32
                    · have d5 : (b2 != 32) = false := bne_eq_false_iff_eq.mpr g2
                      go_wp2
                      go_meet
                      exact ⟨false, (by first | rfl | (simp; done) | (simp [*]; done)), ⟨⟨fun _ => ⟨c1, hb0.trans g0, .inl (hb1.trans g1), hb2.trans g2⟩, fun _ => rfl⟩⟩, by repeat (first | exact Drawn0.refl _ | apply Drawn0.step)⟩
                    · have d5 : (b2 != 32) = true := bne_iff_ne.mpr g2
                      go_wp2
                      go_meet
                      exact ⟨true, (by first | rfl | (simp; done) | (simp [*]; done)), ⟨⟨fun h => (by cases h), fun h => absurd (hb2.symm.trans h.2.2.2) g2⟩⟩, by repeat (first | exact Drawn0.refl _ | apply Drawn0.step)⟩
                  · have d3 : (b1 != 43) = true := bne_iff_ne.mpr g1
                    by_cases g3 : b1 = 45
                    · have d6 : (b1 != 45) = false := bne_eq_false_iff_eq.mpr g3
                      by_cases g2 : b2 = 32
                      · have d5 : (b2 != 32) = false := bne_eq_false_iff_eq.mpr g2
                        go_wp2
                        go_meet
                        exact ⟨false, (by first | rfl | (simp; done) | (simp [*]; done)), ⟨⟨fun _ => ⟨c1, hb0.trans g0, .inr (hb1.trans g3), hb2.trans g2⟩, fun _ => rfl⟩⟩, by repeat (first | exact Drawn0.refl _ | apply Drawn0.step)⟩
                      · have d5 : (b2 != 32) = true := bne_iff_ne.mpr g2
                        go_wp2
                        go_meet
                        exact ⟨true, (by first | rfl | (simp; done) | (simp [*]; done)), ⟨⟨fun h => (by cases h), fun h => absurd (hb2.symm.trans h.2.2.2) g2⟩⟩, by repeat (first | exact Drawn0.refl _ | apply Drawn0.step)⟩
                    · have d6 : (b1 != 45) = true := bne_iff_ne.mpr g3
                      go_wp2
                      go_meet
                      exact ⟨true, (by first | rfl | (simp; done) | (simp [*]; done)), ⟨⟨fun h => (by cases h), fun h => h.2.2.1.elim (fun e => absurd (hb1.symm.trans e) g1) (fun e => absurd (hb1.symm.trans e) g3)⟩⟩, by repeat (first | exact Drawn0.refl _ | apply Drawn0.step)⟩
                · have d2 : (b0 != 32) = true := bne_iff_ne.mpr g0
                  go_wp2
                  go_meet
                  exact ⟨true, (by first | rfl | (simp; done) | (simp [*]; done)), ⟨⟨fun h => (by cases h), fun h => absurd (hb0.symm.trans h.2.1) g0⟩⟩, by repeat (first | exact Drawn0.refl _ | apply Drawn0.step)⟩
              · have d1 := sp_out c1
                go_wp2
                go_meet
                exact ⟨true, (by first | rfl | (simp; done) | (simp [*]; done)), ⟨⟨fun h => (by cases h), fun h => absurd h.1 (by omega)⟩⟩, by repeat (first | exact Drawn0.refl _ | apply Drawn0.step)⟩
            case rest =>
              obtain ⟨b, rfl, HC, ⟨md, rfl⟩⟩ := hcut
              have HB5 : Aside0 (Below w.heap.size w (w4.drewN md)) := ⟨below_drewN HB4.out md⟩
              have HR5 : Aside0 ((w4.drewN md).heap[w.heap.size]? = some (.cells #[.slice none 0 0, .int .i64 0] 25 (0, 0))) := ⟨HR4.out⟩
              have HS5 : Aside0 (RowSt (w4.drewN md) w1.heap.size (w.heap.size + 1) cs' k') := ⟨HS4.out.drawn ⟨md, rfl⟩⟩
              clear hcz0 hcz1 hfz0 hfz1 HB4 HR4 HS4
              generalize w4.drewN md = w5 at HB5 HR5 HS5 ⊢
              have hcz0 : w5.cell? ⟨w.heap.size, 0, none⟩ = some (.slice none 0 0) := (blk_cell HR5.out 0).trans rfl
              have hcz1 : w5.cell? ⟨w.heap.size, 1, none⟩ = some (.int .i64 0) := (blk_cell HR5.out 1).trans rfl
              have hfz0 := blk_frozen HR5.out 0
              have hfz1 := blk_frozen HR5.out 1
              cases b
              · have hsp := HC.out.1 (by first | rfl | trivial)
                obtain ⟨d1, p3, p4, p5, p6, p7⟩ := sp_in hsp.1
                have c1 := hsp.1
                have x1 : ∀ h : q + 1 < s.size, ((s[q + 1]'h).toNat : Int) = bt s ((q + 1 : Nat) : Int) := bt_nat s (q + 1)
                by_cases g3 : bt s ((q + 1 : Nat) : Int) = 45
                · have HIn := Aside0.mk (HAf.out.next (sg := -1) HE.out (.inl ⟨g3, rfl⟩))
                  generalize bt s ((q + 1 : Nat) : Int) = b1 at x1 g3
                  have d4 : (b1 == 45) = true := beq_iff_eq.mpr g3
                  clear HC hsp
                  go_wp2_with fail
                  go_roundw
                  case rel => exact ⟨-1, q + 3, cs', k', rfl, by go_num, c1, HL4, HIn, HS5, HB5, HR5⟩
                  case measure => simp [intOf]; omega
                · have HIn := Aside0.mk (HAf.out.next (sg := 1) HE.out (.inr ⟨g3, rfl⟩))
                  generalize bt s ((q + 1 : Nat) : Int) = b1 at x1 g3
                  have d4 : (b1 == 45) = false := beq_eq_false_iff_ne.mpr g3
                  clear HC hsp
                  go_wp2_with fail
                  go_roundw
                  case rel => exact ⟨1, q + 3, cs', k', rfl, by go_num, c1, HL4, HIn, HS5, HB5, HR5⟩
                  case measure => simp [intOf]; omega
              · have HF : Aside0 (parseF (n : Int) s.data.toList = ([], 0, 3)) := ⟨parse_bad hn hs (by have := HAf.out.sep HE.out (fun h => by simpa using HC.out.2 h); rwa [HL4.out] at this)⟩
                clear HC
                go_wp2_with fail
                refine bodyPost_ret (v := .tuple #[.agg #[.slice none 0 0, .int .i64 0], .int .i64 3]) (by simp [results, Tryd.results7, go_sem, hcz0, hcz1]) rfl (RowPost.zero HF.out ?_); exact (HB5.out.setCell (by simp) _).setCell (by simp) _
set_option maxHeartbeats 2000000 in
set_option maxRecDepth 100000 in
theorem ref_large (v : Int) (s : ByteArray) (w : World) (h0 : 0 ≤ v) (h1 : v ≤ 96) (hs : 4000 < s.size) (hs2 : s.size ≤ 9223372036854775807) :
    Calls Tryd.prog 7 #[.int .i64 v, .string s] w (RowPost w (parseF v s.data.toList)) := by
  have HW := Aside0.mk (ref_in h0 h1)
  have h2 : (4000 : Int) < (s.size : Int) := by omega
  have hl : s.data.toList.length = s.size := by simp
  have HP : Aside0 (parseF v s.data.toList = ([], 0, 4)) := ⟨by simp only [parseF]; rw [if_neg (by omega), if_pos (by omega)]⟩
  clear hl
  go_enter Tryd.func7, Tryd.ntmps7
  go_wp2_with fail
  refine (familycheckref01_within.calls v 0 96 true _ HW.out).mono ?_
  rintro e w1 ⟨rfl, ⟨m, rfl⟩⟩
  go_wp2_with fail
  refine bodyPost_ret (v := .tuple #[.agg #[.slice none 0 0, .int .i64 0], .int .i64 4]) (by simp [results, Tryd.results7, go_sem]) rfl ?_
  refine RowPost.zero HP.out ?_
  exact ((below_drewN ((Below.refl _ _).alloc (Nat.le_refl _) _) m).setCell (by simp) _).setCell (by simp) _

def familycheckref01_ParseRow.f (a0 : Int) (a1 : ByteArray) : Option (List Int × Int × Int) := if a1.size ≤ 9223372036854775807 then some (parseF a0 a1.data.toList) else none
theorem familycheckref01_ParseRow.calls (a0 : Int) (a1 : ByteArray) (r1 : List Int) (r2 r3 : Int) (w : World) (h : familycheckref01_ParseRow.f a0 a1 = some (r1, r2, r3)) :
    Calls Tryd.prog 7 #[.int .i64 a0, .string a1] w fun e w' => ∃ v0_ : Value, e = .returned (.tuple #[.agg #[v0_, .int .i64 r2], .int .i64 r3]) ∧ Kd.R (Kd.int .i64) 3 w' w.heap.size (fun _ => True) v0_ r1 ∧ Below w.heap.size w w' := by
  unfold familycheckref01_ParseRow.f at h
  split at h
  case isFalse => cases h
  rename_i hs
  have h' : parseF a0 a1.data.toList = (r1, r2, r3) := Option.some.inj h
  have key : Calls Tryd.prog 7 #[.int .i64 a0, .string a1] w (RowPost w (parseF a0 a1.data.toList)) := by
    by_cases h0 : a0 < 0 ∨ 96 < a0
    · exact ref_range a0 a1 w h0
    · by_cases h2 : 4000 < a1.size
      · exact ref_large a0 a1 w (by omega) (by omega) h2 hs
      · obtain ⟨n, rfl⟩ := Int.eq_ofNat_of_zero_le (a := a0) (by omega)
        exact ref_main n a1 w (by omega) (by omega)
  rw [h'] at key
  exact key
end Go.Proofs.YthgnpbaldhemiaaDoor.Pr
