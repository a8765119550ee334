/- The contract of linear.ParseRow, behind its first tests; conditions: what the library's variables hold (Glob). -/
import Derived.Test.YthgnpbaldhemiaaDoorHf
namespace Go.Proofs.YthgnpbaldhemiaaDoor.Pr
open Go.RowKit Go.Proofs.YthgnpbaldhemiaaDoorW.PrintWords Go.Proofs.YthgnpbaldhemiaaDoorW.PrintLast Go.Proofs.YthgnpbaldhemiaaDoorW.PrintMore
set_option linter.unusedVariables false
set_option linter.unusedSimpArgs false
theorem suffix_any (s : ByteArray) (hs : s.size ≤ 5000) (b : Bool) (hp : Lib.hasSuffix s.data.toList endS = b) (w : World) :
    Calls Tryd.prog 14 #[.string s, .string ⟨#[32, 62, 61, 32, 48]⟩] w fun e w' => ∃ a : ByteArray, e = .returned (.tuple #[.string a, .bool b]) ∧ Aside0 (a.data.toList = Lib.trimSuffix s.data.toList endS) ∧ w = w' := by
  refine (Tryd.strings_CutSuffix s ⟨#[32, 62, 61, 32, 48]⟩ w (by omega)).mono ?_
  rintro e w' ⟨h1, h2⟩
  exact ⟨⟨(Lib.trimSuffix s.data.toList endS).toArray⟩, h1.trans (hp ▸ rfl), ⟨by simp⟩, h2.symm⟩
theorem itemF_len {cs : List Int} {k sg : Int} {w : List UInt8} {p : List Int × Int} (h : itemF cs k sg w = some p) : p.1.length = cs.length := by
  unfold itemF at h
  repeat' split at h
  all_goals first
    | (cases h; done)
    | (injection h with h; subst h; simp)
theorem RowSt.reads {w : World} {g s : Nat} {cs : List Int} {k : Int} (h : RowSt w g s cs k) (hn : cs.length ≤ 96) : Kd.C (Kd.int .i64) w (some ⟨s, 0, none⟩) cs.length cs :=
  Kd.C_of_reads (d := (0 : Int)) ⟨rfl, by omega, fun _ => ⟨_, rfl, fun j hj => by
    rw [add_plain]
    refine (blk_cell h.coef j).trans ?_
    simp [nums, hj]⟩⟩
theorem RowSt.own {w : World} {g s B : Nat} {cs : List Int} {k : Int} (h : RowSt w g s cs k) (hB : B ≤ s) (hn : cs.length ≤ 96) : Kd.R (Kd.int .i64) 3 w B (fun _ => True) (.slice (some ⟨s, 0, none⟩) cs.length cs.length) cs :=
  Kd.R_of_own (enc := Value.int .i64) ⟨by simp [encs], .inr ⟨s, cs.length, _, rfl, hB, h.coef, Nat.le_refl _, by unfold maxLen; omega, by simp [nums], by simp [nums, encs, List.take_of_length_le]⟩⟩ (fun _ _ => trivial)
theorem splitK_len (sp : List UInt8) : ∀ (k : Nat) (s : List UInt8), ∀ x ∈ Lib.splitK sp 0 k s, x.length ≤ s.length
  | 0, s, x, h => by
    simp only [Lib.splitK, List.mem_singleton] at h
    rw [h]
    exact Nat.le_refl _
  | k + 1, s, x, h => by
    simp only [Lib.splitK] at h
    split at h
    · rw [List.mem_singleton.1 h]
      exact Nat.le_refl _
    · rcases List.mem_cons.1 h with rfl | h
      · simp; omega
      · have := splitK_len sp k _ x h
        simp at this
        omega
theorem split_any (s : ByteArray) (hs : s.size ≤ 4000) (w : World) (hG : Glob w) :
    Calls Tryd.prog 16 #[.string s, .string ⟨#[32]⟩] w fun e w' => ∃ ws : List ByteArray, e = .returned (.slice (some ⟨w.heap.size, 0, none⟩) ws.length ws.length) ∧ Aside0 (ws.map (·.data.toList) = Lib.split s.data.toList [32]) ∧ Aside0 (w'.heap[w.heap.size]? = some (.cells (pw_strs ws).toArray 9 (0, 0))) ∧ w.heap.size < w'.heap.size ∧ ws.length ≤ 4001 ∧ Aside0 (∀ x ∈ ws, x.size ≤ 4000) ∧ Below w.heap.size w w' := by
  obtain ⟨m, hm⟩ := hG.maxLen
  refine (Tryd.strings_Split s ⟨#[32]⟩ m w (by omega) hm (by show 1 ≤ 1; omega)).mono ?_
  rintro e w' ⟨h1, rfl⟩
  have hl := Lib.splitB_all ⟨#[32]⟩ (by show 1 ≤ 1; omega) 0 _ s rfl
  have hd := Lib.splitB_data ⟨#[32]⟩ 0 (Lib.countB s ⟨#[32]⟩) s
  have hc := Lib.countB_le ⟨#[32]⟩ (by show 1 ≤ 1; omega) s.size s (Nat.le_refl _)
  refine ⟨Lib.splitB ⟨#[32]⟩ 0 (Lib.countB s ⟨#[32]⟩) s, by rw [h1, hl], ⟨hd⟩, ⟨heap_new _ _⟩, by simp, by rw [hl]; omega, ⟨fun x hx => ?_⟩, (Below.refl _ _).alloc (Nat.le_refl _) _⟩
  have hx' : x.data.toList ∈ Lib.splitK [32] 0 (Lib.countB s ⟨#[32]⟩) s.data.toList := by
    rw [← hd]
    exact List.mem_map.2 ⟨x, hx, rfl⟩
  have := splitK_len _ _ _ _ hx'
  have h2 : x.data.toList.length = x.size := by simp
  have h3 : s.data.toList.length = s.size := by simp
  omega

set_option maxHeartbeats 2000000 in
set_option maxRecDepth 100000 in
theorem parse_nosuf (v : Int) (s : ByteArray) (w : World) (h0 : 0 ≤ v) (h1 : v ≤ 96) (hs : s.size ≤ 4000) (hG : Glob w) (hsx : Lib.hasSuffix s.data.toList endS = false) :
    Calls Tryd.prog 6 #[.int .i64 v, .string s] w (RowPost w (parseF v s.data.toList)) := by
  have hl : s.data.toList.length = s.size := by simp
  have HP : Aside0 (parseF v s.data.toList = ([], 0, 3)) := ⟨by simp only [parseF]; rw [if_neg (by omega), if_neg (by omega), hsx]; rfl⟩
  clear hl
  obtain ⟨n, rfl⟩ := Int.eq_ofNat_of_zero_le h0
  have hn : n ≤ 96 := by omega
  have h3 : (s.size : Int) ≤ 4000 := by omega
  have HG := Aside0.mk hG
  obtain ⟨i0, hi0, hz0, hz1, hz2⟩ := info_parts info3
  have HSx := Aside0.mk hsx
  clear hG hsx
  go_enter Tryd.func6, Tryd.ntmps6
  go_wp2_with ((with_reducible refine wpList_make_full _ rfl (.tmp 27) (.tmp 27) 23 rfl (w.heap.size + 1) 3 i0 (.int .i64 0) 1 Tryd.underlying23 hi0 hz0 hz1 .i64 .i64 n n n rfl rfl rfl rfl ?c1 ?c2 ?c3 ?_))
  case c1 => rw [hz2]; omega
  case c2 => unfold maxLen; omega
  case c3 => simp
  intro w1 ho hg
  replace ho : w1.ownsRow (w.heap.size + 1) 3 1 (.slice (some ⟨w.heap.size + 1, 0, none⟩) n n) n _ := ho
  have hsz1 : (w.alloc (Obj.cells #[.slice none 0 0, .int .i64 0] 25)).heap.size = w.heap.size + 1 := by simp
  have HB1 : Aside0 (Below (w.heap.size + 1) (w.alloc (Obj.cells #[.slice none 0 0, .int .i64 0] 25)) w1) := ⟨⟨hg.os, hg.tape, hg.output, hg.size, fun k hk => hg.block k (by rw [hsz1]; exact hk) (by simp)⟩⟩
  have HBw : Aside0 (Below w.heap.size w w1) := ⟨((Below.refl _ _).alloc (Nat.le_refl _) _).trans (HB1.out.mono (by omega))⟩
  have hco := own_made ho
  have hw1 := own_lt ho (w.heap.size + 1) (by simp [Value.ownBlock])
  have HR1 : Aside0 (w1.heap[w.heap.size]? = some (.cells #[.slice none 0 0, .int .i64 0] 25 (0, 0))) := ⟨(HB1.out.block _ (by omega)).trans (heap_new w _)⟩
  have HC1 : Aside0 (w1.heap[w.heap.size + 1]? = some (.cells (nums .i64 (List.replicate n 0)).toArray 3 (0, 0))) := ⟨by rw [hco]; simp [nums, madeCells, Nat.mod_one, List.map_const']⟩
  clear ho hg hco hsz1 HB1
  go_wp2_with fail
  refine (suffix_any s (by omega) false HSx.out _).mono ?_
  rintro e w' ⟨a, rfl, ha, rfl⟩
  have hcz0 : w1.cell? ⟨w.heap.size, 0, none⟩ = some (.slice none 0 0) := (blk_cell HR1.out 0).trans rfl
  have hcz1 : w1.cell? ⟨w.heap.size, 1, none⟩ = some (.int .i64 0) := (blk_cell HR1.out 1).trans rfl
  have hfz0 := blk_frozen HR1.out 0
  have hfz1 := blk_frozen HR1.out 1
  have hw1' : w.heap.size < w1.heap.size := by omega
  go_wp2
  refine bodyPost_ret (v := .tuple #[.agg #[.slice none 0 0, .int .i64 0], .int .i64 3]) (by simp [results, Tryd.results6, go_sem, hcz0, hcz1, hw1']) rfl ?_
  refine RowPost.zero HP.out ?_
  exact (((HBw.out.setCell (by simp) _).setCell (by simp) _).alloc (by simp; omega) _)

set_option maxHeartbeats 4000000 in
set_option maxRecDepth 100000 in
theorem parse_main (v : Int) (s : ByteArray) (w : World) (h0 : 0 ≤ v) (h1 : v ≤ 96) (hs : s.size ≤ 4000) (hG : Glob w) (hsx : Lib.hasSuffix s.data.toList endS = true) :
    Calls Tryd.prog 6 #[.int .i64 v, .string s] w (RowPost w (parseF v s.data.toList)) := by
  have hl : s.data.toList.length = s.size := by simp
  have HP : Aside0 (parseF v s.data.toList = lastF s.data.toList (readF v.toNat s.data.toList)) := ⟨by simp only [parseF]; rw [if_neg (by omega), if_neg (by omega), hsx]; rfl⟩
  clear hl
  obtain ⟨n, rfl⟩ := Int.eq_ofNat_of_zero_le h0
  have hn : n ≤ 96 := by omega
  have h3 : (s.size : Int) ≤ 4000 := by omega
  have HG := Aside0.mk hG
  obtain ⟨i0, hi0, hz0, hz1, hz2⟩ := info_parts info3
  have HSx := Aside0.mk hsx
  clear hG hsx
  go_enter Tryd.func6, Tryd.ntmps6
  go_wp2_with ((with_reducible refine wpList_make_full _ rfl (.tmp 27) (.tmp 27) 23 rfl (w.heap.size + 1) 3 i0 (.int .i64 0) 1 Tryd.underlying23 hi0 hz0 hz1 .i64 .i64 n n n rfl rfl rfl rfl ?c1 ?c2 ?c3 ?_))
  case c1 => rw [hz2]; omega
  case c2 => unfold maxLen; omega
  case c3 => simp
  intro w1 ho hg
  replace ho : w1.ownsRow (w.heap.size + 1) 3 1 (.slice (some ⟨w.heap.size + 1, 0, none⟩) n n) n _ := ho
  have hsz1 : (w.alloc (Obj.cells #[.slice none 0 0, .int .i64 0] 25)).heap.size = w.heap.size + 1 := by simp
  have HB1 : Aside0 (Below (w.heap.size + 1) (w.alloc (Obj.cells #[.slice none 0 0, .int .i64 0] 25)) w1) := ⟨⟨hg.os, hg.tape, hg.output, hg.size, fun k hk => hg.block k (by rw [hsz1]; exact hk) (by simp)⟩⟩
  have HBw : Aside0 (Below w.heap.size w w1) := ⟨((Below.refl _ _).alloc (Nat.le_refl _) _).trans (HB1.out.mono (by omega))⟩
  have hco := own_made ho
  have hw1 := own_lt ho (w.heap.size + 1) (by simp [Value.ownBlock])
  have HR1 : Aside0 (w1.heap[w.heap.size]? = some (.cells #[.slice none 0 0, .int .i64 0] 25 (0, 0))) := ⟨(HB1.out.block _ (by omega)).trans (heap_new w _)⟩
  have HC1 : Aside0 (w1.heap[w.heap.size + 1]? = some (.cells (nums .i64 (List.replicate n 0)).toArray 3 (0, 0))) := ⟨by rw [hco]; simp [nums, madeCells, Nat.mod_one, List.map_const']⟩
  clear ho hg hco hsz1 HB1
  go_wp2_with fail
  refine (suffix_any s (by omega) true HSx.out _).mono ?_
  rintro e w' ⟨a, rfl, ha, rfl⟩
  have hal : a.size ≤ 4000 := by
    have h1 := Lib.trimSuffix_le s.data.toList endS
    rw [← ha.out] at h1
    have h2 : a.data.toList.length = a.size := by simp
    have h3 : s.data.toList.length = s.size := by simp
    omega
  have hw1' : w.heap.size < w1.heap.size := by omega
  -- the world behind the row variable's making
  obtain ⟨w2, hw2⟩ : ∃ w2, w2 = w1.alloc (Obj.cells #[.slice (some ⟨w.heap.size + 1, 0, none⟩) n n, .int .i64 0] 25) := ⟨_, rfl⟩
  have HB2 : Aside0 (Below w1.heap.size w1 w2) := ⟨by rw [hw2]; exact (Below.refl _ _).alloc (Nat.le_refl _) _⟩
  have HBw2 : Aside0 (Below w.heap.size w w2) := ⟨HBw.out.trans (HB2.out.mono (by omega))⟩
  have HR2 := Aside0.mk (blk_below HR1.out HB2.out)
  have HSt : Aside0 (RowSt w2 w1.heap.size (w.heap.size + 1) (List.replicate n 0) 0) := ⟨⟨by rw [hw2, List.length_replicate]; exact heap_new _ _, blk_below HC1.out HB2.out, by omega⟩⟩
  have HG2 := Aside0.mk (Glob_below HG.out HBw2.out)
  have hw2s : w1.heap.size < w2.heap.size := by rw [hw2]; simp
  rw [← hw2]
  clear hw2 HB2 HR1 HC1
  go_wp2_with fail
  by_cases hneg : Lib.hasPrefix a.data.toList [45] = true
  · refine (prefix_any a ⟨#[45]⟩ true hneg _).mono ?_
    rintro e w' ⟨b, rfl, hb, rfl⟩
    have hbl : b.size ≤ 4000 := by
      have h1 := Lib.trimPrefix_le a.data.toList [45]
      have h4 : b.data.toList = Lib.trimPrefix a.data.toList [45] := hb.out
      rw [← h4] at h1
      have h2 : b.data.toList.length = b.size := by simp
      have h3 : a.data.toList.length = a.size := by simp
      omega
    have hbody : Aside0 (wordsOf s.data.toList = Lib.split b.data.toList [32] ∧ signOf s.data.toList = -1) := ⟨by
      have h4 : b.data.toList = Lib.trimPrefix a.data.toList [45] := hb.out
      unfold wordsOf bodyOf signOf
      rw [← ha.out, if_pos hneg, if_pos hneg, h4]
      exact ⟨rfl, rfl⟩⟩
    clear hneg hb ha
    go_wp2_with fail
    refine (split_any b hbl _ HG2.out).mono ?_
    rintro e w3 ⟨ws, rfl, hws, hwb, hw3, hwl, hwx, hb3⟩
    have HBw3 := Aside0.mk (HBw2.out.trans (hb3.mono (by omega)))
    have HR3 := Aside0.mk (blk_below HR2.out hb3)
    have HSt3 := Aside0.mk (HSt.out.below hb3)
    have HG3 := Aside0.mk (Glob_below HG2.out hb3)
    have HO : Aside0 (readF n s.data.toList = loopF (ws.map (·.data.toList)) true (-1) (List.replicate n 0) 0) := ⟨by
      unfold readF
      rw [hbody.out.1, hbody.out.2, hws.out]⟩
    clear hb3 hbody hws HR2 HSt HG2 HBw2
    go_wp2_with fail
    go_loopw [9, 48] (fun v9 v48 W => ∃ (i : Nat) (sg : Int) (cs : List Int) (k : Int), i ≤ ws.length ∧ v48 = .int .i64 i ∧ v9 = .int .i64 sg ∧ (sg = 1 ∨ sg = -1) ∧ Aside0 (cs.length = n) ∧ Aside0 (readF n s.data.toList = loopF ((ws.drop i).map (·.data.toList)) (i % 2 == 0) sg cs k) ∧ Aside0 (RowSt W w1.heap.size (w.heap.size + 1) cs k) ∧ Aside0 (Below w.heap.size w W) ∧ Aside0 (W.heap[w.heap.size]? = some (.cells #[.slice none 0 0, .int .i64 0] 25 (0, 0))) ∧ Aside0 (W.heap[w2.heap.size]? = some (.cells (pw_strs ws).toArray 9 (0, 0)))) (fun _ v48 _ => ws.length - (intOf v48).toNat)
    case atStart => exact ⟨0, -1, List.replicate n 0, 0, Nat.zero_le _, rfl, rfl, by decide, ⟨by simp⟩, ⟨by rw [HO.out]; simp⟩, HSt3, HBw3, HR3, hwb⟩
    case round =>
      obtain ⟨i, sg, cs, k, hi, rfl, rfl, hsg, hcn, HL, HSr, HBr, HRr, HWr⟩ := hrel
      have HGr := Aside0.mk (Glob_below HG.out HBr.out)
      have hc96 : cs.length ≤ 96 := by rw [hcn.out]; exact hn
      clear HG3 HSt3 HBw3 HR3 hwb HO
      by_cases hlt : i < ws.length
      · have hwd := Aside0.mk (List.drop_eq_getElem_cons hlt)
        have hwz : (ws[i]).size ≤ 4000 := hwx.out _ (List.getElem_mem hlt)
        have hcw : wr.cell? ⟨w2.heap.size, i, none⟩ = some (.string ws[i]) := (blk_cell HWr.out i).trans (by simp [pw_strs, hlt])
        generalize hwi : ws[i] = wd at hwd hwz hcw
        clear hwi
        have hib : (i : Int) < 5000 := by omega
        rcases Nat.mod_two_eq_zero_or_one i with hpar | hpar
        · have hp0 : ((i : Int) % 2 == 0) = true := by rw [beq_iff_eq]; omega
          have hp1 : ((i : Int) % 2 == 1) = false := by rw [beq_eq_false_iff_ne]; omega
          have hpn : Aside0 (((i + 1) % 2 == 0) = false) := ⟨by rw [beq_eq_false_iff_ne]; omega⟩
          have HL2 : Aside0 (readF n s.data.toList = (itemF cs k sg wd.data.toList).bind fun p => loopF ((ws.drop (i + 1)).map (·.data.toList)) false sg p.1 p.2) := ⟨by
            rw [HL.out, hwd.out, hpar]
            rfl⟩
          clear hpar HL hwd
          go_wp2_with fail
          refine (item_any wd (by omega) _ _ cs k sg _ hc96 hsg HSr.out HGr.out).mono ?_
          rintro e w4 hpost
          unfold ItemPost at hpost
          cases hit : itemF cs k sg wd.data.toList with
          | none =>
            rw [hit] at hpost HL2
            obtain ⟨rfl, hb4⟩ := hpost
            have HF : Aside0 (parseF (n : Int) s.data.toList = ([], 0, 3)) := ⟨by rw [HP.out]; show lastF _ (readF n s.data.toList) = _; rw [HL2.out]; rfl⟩
            have HB4 := Aside0.mk (HBr.out.trans (hb4.mono HBr.out.size))
            have HR4 := Aside0.mk (blk_below HRr.out hb4)
            clear hb4 hit
            have hcz0 : w4.cell? ⟨w.heap.size, 0, none⟩ = some (.slice none 0 0) := (blk_cell HR4.out 0).trans rfl
            have hcz1 : w4.cell? ⟨w.heap.size, 1, none⟩ = some (.int .i64 0) := (blk_cell HR4.out 1).trans rfl
            have hfz0 := blk_frozen HR4.out 0
            have hfz1 := blk_frozen HR4.out 1
            go_wp2_with fail
            refine bodyPost_ret (v := .tuple #[.agg #[.slice none 0 0, .int .i64 0], .int .i64 3]) (by simp [results, Tryd.results6, go_sem, hcz0, hcz1]) rfl (RowPost.zero HF.out ?_); exact (HB4.out.setCell (by simp) _).setCell (by simp) _
          | some p =>
            rw [hit] at hpost HL2
            obtain ⟨rfl, hst4, hk4⟩ := hpost
            have hlen := itemF_len hit
            have hwr : w2.heap.size < wr.heap.size := blk_lt HWr.out
            have HB4 := Aside0.mk (HBr.out.trans (hk4.below (by omega) (by omega) HBr.out.size))
            have HR4 : Aside0 (w4.heap[w.heap.size]? = some (.cells #[.slice none 0 0, .int .i64 0] 25 (0, 0))) := ⟨(hk4.block _ (by omega) (by omega) (by omega)).trans HRr.out⟩
            have HW4 : Aside0 (w4.heap[w2.heap.size]? = some (.cells (pw_strs ws).toArray 9 (0, 0))) := ⟨(hk4.block _ hwr (by omega) (by omega)).trans HWr.out⟩
            have HS4 := Aside0.mk hst4
            have hlen' := Aside0.mk (hlen.trans hcn.out)
            clear hk4 hst4 hit hlen
            go_wp2_with fail
            go_roundw
            case rel => exact ⟨i + 1, sg, p.1, p.2, by omega, by go_num, rfl, hsg, hlen', ⟨by rw [HL2.out, hpn.out]; rfl⟩, HS4, HB4, HR4, HW4⟩
            case measure => simp [intOf]; omega
        · have hp0 : ((i : Int) % 2 == 0) = false := by rw [beq_eq_false_iff_ne]; omega
          have hp1 : ((i : Int) % 2 == 1) = true := by rw [beq_iff_eq]; omega
          have hpn : Aside0 (((i + 1) % 2 == 0) = true) := ⟨by rw [beq_iff_eq]; omega⟩
          have HL2 : Aside0 (readF n s.data.toList = if wd.data.toList = [43] then loopF ((ws.drop (i + 1)).map (·.data.toList)) true 1 cs k else if wd.data.toList = [45] then loopF ((ws.drop (i + 1)).map (·.data.toList)) true (-1) cs k else none) := ⟨by
            rw [HL.out, hwd.out, hpar]
            rfl⟩
          clear hpar HL hwd
          have hte := Aside0.mk (ByteArray.toList_eq wd)
          by_cases hw43 : wd.data.toList = [43]
          · have e43 : (wd.toList == ([43] : List UInt8)) = true := by rw [hte.out, hw43]; rfl
            have e45 : (wd.toList == ([45] : List UInt8)) = false := by rw [hte.out, hw43]; rfl
            have HL3 : Aside0 (readF n s.data.toList = loopF ((ws.drop (i + 1)).map (·.data.toList)) true 1 cs k) := ⟨by rw [HL2.out, if_pos hw43]⟩
            clear hw43 HL2
            go_wp2_with fail
            go_roundw
            case rel => exact ⟨i + 1, 1, cs, k, by omega, by go_num, rfl, .inl rfl, hcn, ⟨by rw [HL3.out, hpn.out]⟩, HSr, HBr, HRr, HWr⟩
            case measure => simp [intOf]; omega
          · have e43 : (wd.toList == ([43] : List UInt8)) = false := by rw [hte.out]; simpa using hw43
            by_cases hw45 : wd.data.toList = [45]
            · have e45 : (wd.toList == ([45] : List UInt8)) = true := by rw [hte.out, hw45]; rfl
              have HL3 : Aside0 (readF n s.data.toList = loopF ((ws.drop (i + 1)).map (·.data.toList)) true (-1) cs k) := ⟨by rw [HL2.out, if_neg hw43, if_pos hw45]⟩
              clear hw43 hw45 HL2
              go_wp2_with fail
              go_roundw
              case rel => exact ⟨i + 1, -1, cs, k, by omega, by go_num, rfl, .inr rfl, hcn, ⟨by rw [HL3.out, hpn.out]⟩, HSr, HBr, HRr, HWr⟩
              case measure => simp [intOf]; omega
            · have e45 : (wd.toList == ([45] : List UInt8)) = false := by rw [hte.out]; simpa using hw45
              have HF : Aside0 (parseF (n : Int) s.data.toList = ([], 0, 3)) := ⟨by rw [HP.out]; show lastF _ (readF n s.data.toList) = _; rw [HL2.out, if_neg hw43, if_neg hw45]; rfl⟩
              have HB4 := HBr
              clear hw43 hw45 HL2
              have hcz0 : wr.cell? ⟨w.heap.size, 0, none⟩ = some (.slice none 0 0) := (blk_cell HRr.out 0).trans rfl
              have hcz1 : wr.cell? ⟨w.heap.size, 1, none⟩ = some (.int .i64 0) := (blk_cell HRr.out 1).trans rfl
              have hfz0 := blk_frozen HRr.out 0
              have hfz1 := blk_frozen HRr.out 1
              go_wp2_with fail
              refine bodyPost_ret (v := .tuple #[.agg #[.slice none 0 0, .int .i64 0], .int .i64 3]) (by simp [results, Tryd.results6, go_sem, hcz0, hcz1]) rfl (RowPost.zero HF.out ?_); exact (HB4.out.setCell (by simp) _).setCell (by simp) _
      · have hix : ws.drop i = [] := List.drop_eq_nil_of_le (by omega)
        have HL2 : Aside0 (readF n s.data.toList = some (cs, k)) := ⟨by rw [HL.out, hix]; rfl⟩
        clear HL hix
        have hrz0 : wr.cell? ⟨w1.heap.size, 0, none⟩ = some (.slice (some ⟨w.heap.size + 1, 0, none⟩) cs.length cs.length) := (blk_cell HSr.out.row 0).trans rfl
        have hrz1 : wr.cell? ⟨w1.heap.size, 1, none⟩ = some (.int .i64 k) := (blk_cell HSr.out.row 1).trans rfl
        go_wp2_with fail
        by_cases hsm : smallB cs k = true
        · refine (linear_FormatRow.calls _ _ cs k ⟨(rowL cs k).toArray⟩ 0 _ HGr.out (HSr.out.reads hc96) (Nat.le_refl _) (by unfold linear_FormatRow.f; rw [if_neg (by omega), if_pos hsm])).mono ?_
          rintro e w4 ⟨rfl, hb4⟩
          have HB4 := Aside0.mk (HBr.out.trans (hb4.mono HBr.out.size))
          have HR4 := Aside0.mk (blk_below HRr.out hb4)
          have HS4 := Aside0.mk (HSr.out.below hb4)
          clear hb4
          have hcz0 : w4.cell? ⟨w.heap.size, 0, none⟩ = some (.slice none 0 0) := (blk_cell HR4.out 0).trans rfl
          have hcz1 : w4.cell? ⟨w.heap.size, 1, none⟩ = some (.int .i64 0) := (blk_cell HR4.out 1).trans rfl
          have hfz0 := blk_frozen HR4.out 0
          have hfz1 := blk_frozen HR4.out 1
          have hry0 : w4.cell? ⟨w1.heap.size, 0, none⟩ = some (.slice (some ⟨w.heap.size + 1, 0, none⟩) cs.length cs.length) := (blk_cell HS4.out.row 0).trans rfl
          have hry1 : w4.cell? ⟨w1.heap.size, 1, none⟩ = some (.int .i64 k) := (blk_cell HS4.out.row 1).trans rfl
          have hts : Aside0 ((⟨(rowL cs k).toArray⟩ : ByteArray).toList = rowL cs k) := ⟨ByteArray.toList_eq _⟩
          have htt := Aside0.mk (ByteArray.toList_eq s)
          generalize hRS : (⟨(rowL cs k).toArray⟩ : ByteArray) = rs at hts ⊢
          clear hRS
          by_cases heq : rowL cs k = s.data.toList
          · have e1 : (rs.toList == s.toList) = true := by rw [hts.out, htt.out, heq]; exact beq_self_eq_true _
            have e2 : (rs.toList != s.toList) = false := by rw [hts.out, htt.out, heq]; simp
            have HF : Aside0 (parseF (n : Int) s.data.toList = (cs, k, 0)) := ⟨by rw [HP.out]; show lastF _ (readF n s.data.toList) = _; rw [HL2.out]; unfold lastF; simp only; rw [if_pos ⟨hsm, heq⟩]⟩
            clear heq hsm
            go_wp2_with fail
            refine bodyPost_ret (v := .tuple #[.agg #[.slice (some ⟨w.heap.size + 1, 0, none⟩) cs.length cs.length, .int .i64 k], .int .i64 0]) (by simp [results, Tryd.results6, go_sem, hcz0, hcz1]) rfl ?_
            rw [HF.out]
            refine ⟨_, rfl, ?_, (HB4.out.setCell (by simp) _).setCell (by simp) _⟩
            have := HS4.out.own (B := w.heap.size) (by omega) hc96
            exact Kd.R_far (Kd.R_far (Kd.R_mono (ok' := fun k => k ≠ w.heap.size) (Kd.R_tight rfl this) (fun k hk => by simp [Value.ownBlock] at hk; omega)) (fun _ h => h) _) (fun _ h => h) _ |> fun h => Kd.R_mono h (fun _ _ => trivial)
          · have e1 : (rs.toList == s.toList) = false := by rw [hts.out, htt.out]; simpa using heq
            have e2 : (rs.toList != s.toList) = true := by rw [hts.out, htt.out]; simpa using heq
            have HF : Aside0 (parseF (n : Int) s.data.toList = ([], 0, 3)) := ⟨by rw [HP.out]; show lastF _ (readF n s.data.toList) = _; rw [HL2.out]; unfold lastF; simp only; rw [if_neg (fun h => heq h.2)]⟩
            clear heq hsm
            go_wp2_with fail
            refine bodyPost_ret (v := .tuple #[.agg #[.slice none 0 0, .int .i64 0], .int .i64 3]) (by simp [results, Tryd.results6, go_sem, hcz0, hcz1]) rfl (RowPost.zero HF.out ?_); exact (HB4.out.setCell (by simp) _).setCell (by simp) _
        · refine (linear_FormatRow.calls _ _ cs k ⟨#[]⟩ 4 _ HGr.out (HSr.out.reads hc96) (Nat.le_refl _) (by unfold linear_FormatRow.f; rw [if_neg (by omega), if_neg hsm])).mono ?_
          rintro e w4 ⟨rfl, hb4⟩
          have HB4 := Aside0.mk (HBr.out.trans (hb4.mono HBr.out.size))
          have HR4 := Aside0.mk (blk_below HRr.out hb4)
          clear hb4
          have hcz0 : w4.cell? ⟨w.heap.size, 0, none⟩ = some (.slice none 0 0) := (blk_cell HR4.out 0).trans rfl
          have hcz1 : w4.cell? ⟨w.heap.size, 1, none⟩ = some (.int .i64 0) := (blk_cell HR4.out 1).trans rfl
          have hfz0 := blk_frozen HR4.out 0
          have hfz1 := blk_frozen HR4.out 1
          have HF : Aside0 (parseF (n : Int) s.data.toList = ([], 0, 3)) := ⟨by rw [HP.out]; show lastF _ (readF n s.data.toList) = _; rw [HL2.out]; unfold lastF; simp only; rw [if_neg (fun h => hsm h.1)]⟩
          clear hsm
          go_wp2_with fail
          refine bodyPost_ret (v := .tuple #[.agg #[.slice none 0 0, .int .i64 0], .int .i64 3]) (by simp [results, Tryd.results6, go_sem, hcz0, hcz1]) rfl (RowPost.zero HF.out ?_); exact (HB4.out.setCell (by simp) _).setCell (by simp) _

  · refine (prefix_any a ⟨#[45]⟩ false (by simpa using hneg) _).mono ?_
    rintro e w' ⟨b, rfl, hb, rfl⟩
    have hbody : Aside0 (wordsOf s.data.toList = Lib.split a.data.toList [32] ∧ signOf s.data.toList = 1) := ⟨by
      unfold wordsOf bodyOf signOf
      rw [← ha.out, if_neg hneg, if_neg hneg]
      exact ⟨rfl, rfl⟩⟩
    clear hneg hb ha
    go_wp2_with fail
    refine (split_any a hal _ HG2.out).mono ?_
    rintro e w3 ⟨ws, rfl, hws, hwb, hw3, hwl, hwx, hb3⟩
    have HBw3 := Aside0.mk (HBw2.out.trans (hb3.mono (by omega)))
    have HR3 := Aside0.mk (blk_below HR2.out hb3)
    have HSt3 := Aside0.mk (HSt.out.below hb3)
    have HG3 := Aside0.mk (Glob_below HG2.out hb3)
    have HO : Aside0 (readF n s.data.toList = loopF (ws.map (·.data.toList)) true (1) (List.replicate n 0) 0) := ⟨by
      unfold readF
      rw [hbody.out.1, hbody.out.2, hws.out]⟩
    clear hb3 hbody hws HR2 HSt HG2 HBw2
    go_wp2_with fail
    go_loopw [9, 48] (fun v9 v48 W => ∃ (i : Nat) (sg : Int) (cs : List Int) (k : Int), i ≤ ws.length ∧ v48 = .int .i64 i ∧ v9 = .int .i64 sg ∧ (sg = 1 ∨ sg = -1) ∧ Aside0 (cs.length = n) ∧ Aside0 (readF n s.data.toList = loopF ((ws.drop i).map (·.data.toList)) (i % 2 == 0) sg cs k) ∧ Aside0 (RowSt W w1.heap.size (w.heap.size + 1) cs k) ∧ Aside0 (Below w.heap.size w W) ∧ Aside0 (W.heap[w.heap.size]? = some (.cells #[.slice none 0 0, .int .i64 0] 25 (0, 0))) ∧ Aside0 (W.heap[w2.heap.size]? = some (.cells (pw_strs ws).toArray 9 (0, 0)))) (fun _ v48 _ => ws.length - (intOf v48).toNat)
    case atStart => exact ⟨0, 1, List.replicate n 0, 0, Nat.zero_le _, rfl, rfl, by decide, ⟨by simp⟩, ⟨by rw [HO.out]; simp⟩, HSt3, HBw3, HR3, hwb⟩
    case round =>
      obtain ⟨i, sg, cs, k, hi, rfl, rfl, hsg, hcn, HL, HSr, HBr, HRr, HWr⟩ := hrel
      have HGr := Aside0.mk (Glob_below HG.out HBr.out)
      have hc96 : cs.length ≤ 96 := by rw [hcn.out]; exact hn
      clear HG3 HSt3 HBw3 HR3 hwb HO
      by_cases hlt : i < ws.length
      · have hwd := Aside0.mk (List.drop_eq_getElem_cons hlt)
        have hwz : (ws[i]).size ≤ 4000 := hwx.out _ (List.getElem_mem hlt)
        have hcw : wr.cell? ⟨w2.heap.size, i, none⟩ = some (.string ws[i]) := (blk_cell HWr.out i).trans (by simp [pw_strs, hlt])
        generalize hwi : ws[i] = wd at hwd hwz hcw
        clear hwi
        have hib : (i : Int) < 5000 := by omega
        rcases Nat.mod_two_eq_zero_or_one i with hpar | hpar
        · have hp0 : ((i : Int) % 2 == 0) = true := by rw [beq_iff_eq]; omega
          have hp1 : ((i : Int) % 2 == 1) = false := by rw [beq_eq_false_iff_ne]; omega
          have hpn : Aside0 (((i + 1) % 2 == 0) = false) := ⟨by rw [beq_eq_false_iff_ne]; omega⟩
          have HL2 : Aside0 (readF n s.data.toList = (itemF cs k sg wd.data.toList).bind fun p => loopF ((ws.drop (i + 1)).map (·.data.toList)) false sg p.1 p.2) := ⟨by
            rw [HL.out, hwd.out, hpar]
            rfl⟩
          clear hpar HL hwd
          go_wp2_with fail
          refine (item_any wd (by omega) _ _ cs k sg _ hc96 hsg HSr.out HGr.out).mono ?_
          rintro e w4 hpost
          unfold ItemPost at hpost
          cases hit : itemF cs k sg wd.data.toList with
          | none =>
            rw [hit] at hpost HL2
            obtain ⟨rfl, hb4⟩ := hpost
            have HF : Aside0 (parseF (n : Int) s.data.toList = ([], 0, 3)) := ⟨by rw [HP.out]; show lastF _ (readF n s.data.toList) = _; rw [HL2.out]; rfl⟩
            have HB4 := Aside0.mk (HBr.out.trans (hb4.mono HBr.out.size))
            have HR4 := Aside0.mk (blk_below HRr.out hb4)
            clear hb4 hit
            have hcz0 : w4.cell? ⟨w.heap.size, 0, none⟩ = some (.slice none 0 0) := (blk_cell HR4.out 0).trans rfl
            have hcz1 : w4.cell? ⟨w.heap.size, 1, none⟩ = some (.int .i64 0) := (blk_cell HR4.out 1).trans rfl
            have hfz0 := blk_frozen HR4.out 0
            have hfz1 := blk_frozen HR4.out 1
            go_wp2_with fail
            refine bodyPost_ret (v := .tuple #[.agg #[.slice none 0 0, .int .i64 0], .int .i64 3]) (by simp [results, Tryd.results6, go_sem, hcz0, hcz1]) rfl (RowPost.zero HF.out ?_); exact (HB4.out.setCell (by simp) _).setCell (by simp) _
          | some p =>
            rw [hit] at hpost HL2
            obtain ⟨rfl, hst4, hk4⟩ := hpost
            have hlen := itemF_len hit
            have hwr : w2.heap.size < wr.heap.size := blk_lt HWr.out
            have HB4 := Aside0.mk (HBr.out.trans (hk4.below (by omega) (by omega) HBr.out.size))
            have HR4 : Aside0 (w4.heap[w.heap.size]? = some (.cells #[.slice none 0 0, .int .i64 0] 25 (0, 0))) := ⟨(hk4.block _ (by omega) (by omega) (by omega)).trans HRr.out⟩
            have HW4 : Aside0 (w4.heap[w2.heap.size]? = some (.cells (pw_strs ws).toArray 9 (0, 0))) := ⟨(hk4.block _ hwr (by omega) (by omega)).trans HWr.out⟩
            have HS4 := Aside0.mk hst4
            have hlen' := Aside0.mk (hlen.trans hcn.out)
            clear hk4 hst4 hit hlen
            go_wp2_with fail
            go_roundw
            case rel => exact ⟨i + 1, sg, p.1, p.2, by omega, by go_num, rfl, hsg, hlen', ⟨by rw [HL2.out, hpn.out]; rfl⟩, HS4, HB4, HR4, HW4⟩
            case measure => simp [intOf]; omega
        · have hp0 : ((i : Int) % 2 == 0) = false := by rw [beq_eq_false_iff_ne]; omega
          have hp1 : ((i : Int) % 2 == 1) = true := by rw [beq_iff_eq]; omega
          have hpn : Aside0 (((i + 1) % 2 == 0) = true) := ⟨by rw [beq_iff_eq]; omega⟩
          have HL2 : Aside0 (readF n s.data.toList = if wd.data.toList = [43] then loopF ((ws.drop (i + 1)).map (·.data.toList)) true 1 cs k else if wd.data.toList = [45] then loopF ((ws.drop (i + 1)).map (·.data.toList)) true (-1) cs k else none) := ⟨by
            rw [HL.out, hwd.out, hpar]
            rfl⟩
          clear hpar HL hwd
          have hte := Aside0.mk (ByteArray.toList_eq wd)
          by_cases hw43 : wd.data.toList = [43]
          · have e43 : (wd.toList == ([43] : List UInt8)) = true := by rw [hte.out, hw43]; rfl
            have e45 : (wd.toList == ([45] : List UInt8)) = false := by rw [hte.out, hw43]; rfl
            have HL3 : Aside0 (readF n s.data.toList = loopF ((ws.drop (i + 1)).map (·.data.toList)) true 1 cs k) := ⟨by rw [HL2.out, if_pos hw43]⟩
            clear hw43 HL2
            go_wp2_with fail
            go_roundw
            case rel => exact ⟨i + 1, 1, cs, k, by omega, by go_num, rfl, .inl rfl, hcn, ⟨by rw [HL3.out, hpn.out]⟩, HSr, HBr, HRr, HWr⟩
            case measure => simp [intOf]; omega
          · have e43 : (wd.toList == ([43] : List UInt8)) = false := by rw [hte.out]; simpa using hw43
            by_cases hw45 : wd.data.toList = [45]
            · have e45 : (wd.toList == ([45] : List UInt8)) = true := by rw [hte.out, hw45]; rfl
              have HL3 : Aside0 (readF n s.data.toList = loopF ((ws.drop (i + 1)).map (·.data.toList)) true (-1) cs k) := ⟨by rw [HL2.out, if_neg hw43, if_pos hw45]⟩
              clear hw43 hw45 HL2
              go_wp2_with fail
              go_roundw
              case rel => exact ⟨i + 1, -1, cs, k, by omega, by go_num, rfl, .inr rfl, hcn, ⟨by rw [HL3.out, hpn.out]⟩, HSr, HBr, HRr, HWr⟩
              case measure => simp [intOf]; omega
            · have e45 : (wd.toList == ([45] : List UInt8)) = false := by rw [hte.out]; simpa using hw45
              have HF : Aside0 (parseF (n : Int) s.data.toList = ([], 0, 3)) := ⟨by rw [HP.out]; show lastF _ (readF n s.data.toList) = _; rw [HL2.out, if_neg hw43, if_neg hw45]; rfl⟩
              have HB4 := HBr
              clear hw43 hw45 HL2
              have hcz0 : wr.cell? ⟨w.heap.size, 0, none⟩ = some (.slice none 0 0) := (blk_cell HRr.out 0).trans rfl
              have hcz1 : wr.cell? ⟨w.heap.size, 1, none⟩ = some (.int .i64 0) := (blk_cell HRr.out 1).trans rfl
              have hfz0 := blk_frozen HRr.out 0
              have hfz1 := blk_frozen HRr.out 1
              go_wp2_with fail
              refine bodyPost_ret (v := .tuple #[.agg #[.slice none 0 0, .int .i64 0], .int .i64 3]) (by simp [results, Tryd.results6, go_sem, hcz0, hcz1]) rfl (RowPost.zero HF.out ?_); exact (HB4.out.setCell (by simp) _).setCell (by simp) _
      · have hix : ws.drop i = [] := List.drop_eq_nil_of_le (by omega)
        have HL2 : Aside0 (readF n s.data.toList = some (cs, k)) := ⟨by rw [HL.out, hix]; rfl⟩
        clear HL hix
        have hrz0 : wr.cell? ⟨w1.heap.size, 0, none⟩ = some (.slice (some ⟨w.heap.size + 1, 0, none⟩) cs.length cs.length) := (blk_cell HSr.out.row 0).trans rfl
        have hrz1 : wr.cell? ⟨w1.heap.size, 1, none⟩ = some (.int .i64 k) := (blk_cell HSr.out.row 1).trans rfl
        go_wp2_with fail
        by_cases hsm : smallB cs k = true
        · refine (linear_FormatRow.calls _ _ cs k ⟨(rowL cs k).toArray⟩ 0 _ HGr.out (HSr.out.reads hc96) (Nat.le_refl _) (by unfold linear_FormatRow.f; rw [if_neg (by omega), if_pos hsm])).mono ?_
          rintro e w4 ⟨rfl, hb4⟩
          have HB4 := Aside0.mk (HBr.out.trans (hb4.mono HBr.out.size))
          have HR4 := Aside0.mk (blk_below HRr.out hb4)
          have HS4 := Aside0.mk (HSr.out.below hb4)
          clear hb4
          have hcz0 : w4.cell? ⟨w.heap.size, 0, none⟩ = some (.slice none 0 0) := (blk_cell HR4.out 0).trans rfl
          have hcz1 : w4.cell? ⟨w.heap.size, 1, none⟩ = some (.int .i64 0) := (blk_cell HR4.out 1).trans rfl
          have hfz0 := blk_frozen HR4.out 0
          have hfz1 := blk_frozen HR4.out 1
          have hry0 : w4.cell? ⟨w1.heap.size, 0, none⟩ = some (.slice (some ⟨w.heap.size + 1, 0, none⟩) cs.length cs.length) := (blk_cell HS4.out.row 0).trans rfl
          have hry1 : w4.cell? ⟨w1.heap.size, 1, none⟩ = some (.int .i64 k) := (blk_cell HS4.out.row 1).trans rfl
          have hts : Aside0 ((⟨(rowL cs k).toArray⟩ : ByteArray).toList = rowL cs k) := ⟨ByteArray.toList_eq _⟩
          have htt := Aside0.mk (ByteArray.toList_eq s)
          generalize hRS : (⟨(rowL cs k).toArray⟩ : ByteArray) = rs at hts ⊢
          clear hRS
          by_cases heq : rowL cs k = s.data.toList
          · have e1 : (rs.toList == s.toList) = true := by rw [hts.out, htt.out, heq]; exact beq_self_eq_true _
            have e2 : (rs.toList != s.toList) = false := by rw [hts.out, htt.out, heq]; simp
            have HF : Aside0 (parseF (n : Int) s.data.toList = (cs, k, 0)) := ⟨by rw [HP.out]; show lastF _ (readF n s.data.toList) = _; rw [HL2.out]; unfold lastF; simp only; rw [if_pos ⟨hsm, heq⟩]⟩
            clear heq hsm
            go_wp2_with fail
            refine bodyPost_ret (v := .tuple #[.agg #[.slice (some ⟨w.heap.size + 1, 0, none⟩) cs.length cs.length, .int .i64 k], .int .i64 0]) (by simp [results, Tryd.results6, go_sem, hcz0, hcz1]) rfl ?_
            rw [HF.out]
            refine ⟨_, rfl, ?_, (HB4.out.setCell (by simp) _).setCell (by simp) _⟩
            have := HS4.out.own (B := w.heap.size) (by omega) hc96
            exact Kd.R_far (Kd.R_far (Kd.R_mono (ok' := fun k => k ≠ w.heap.size) (Kd.R_tight rfl this) (fun k hk => by simp [Value.ownBlock] at hk; omega)) (fun _ h => h) _) (fun _ h => h) _ |> fun h => Kd.R_mono h (fun _ _ => trivial)
          · have e1 : (rs.toList == s.toList) = false := by rw [hts.out, htt.out]; simpa using heq
            have e2 : (rs.toList != s.toList) = true := by rw [hts.out, htt.out]; simpa using heq
            have HF : Aside0 (parseF (n : Int) s.data.toList = ([], 0, 3)) := ⟨by rw [HP.out]; show lastF _ (readF n s.data.toList) = _; rw [HL2.out]; unfold lastF; simp only; rw [if_neg (fun h => heq h.2)]⟩
            clear heq hsm
            go_wp2_with fail
            refine bodyPost_ret (v := .tuple #[.agg #[.slice none 0 0, .int .i64 0], .int .i64 3]) (by simp [results, Tryd.results6, go_sem, hcz0, hcz1]) rfl (RowPost.zero HF.out ?_); exact (HB4.out.setCell (by simp) _).setCell (by simp) _
        · refine (linear_FormatRow.calls _ _ cs k ⟨#[]⟩ 4 _ HGr.out (HSr.out.reads hc96) (Nat.le_refl _) (by unfold linear_FormatRow.f; rw [if_neg (by omega), if_neg hsm])).mono ?_
          rintro e w4 ⟨rfl, hb4⟩
          have HB4 := Aside0.mk (HBr.out.trans (hb4.mono HBr.out.size))
          have HR4 := Aside0.mk (blk_below HRr.out hb4)
          clear hb4
          have hcz0 : w4.cell? ⟨w.heap.size, 0, none⟩ = some (.slice none 0 0) := (blk_cell HR4.out 0).trans rfl
          have hcz1 : w4.cell? ⟨w.heap.size, 1, none⟩ = some (.int .i64 0) := (blk_cell HR4.out 1).trans rfl
          have hfz0 := blk_frozen HR4.out 0
          have hfz1 := blk_frozen HR4.out 1
          have HF : Aside0 (parseF (n : Int) s.data.toList = ([], 0, 3)) := ⟨by rw [HP.out]; show lastF _ (readF n s.data.toList) = _; rw [HL2.out]; unfold lastF; simp only; rw [if_neg (fun h => hsm h.1)]⟩
          clear hsm
          go_wp2_with fail
          refine bodyPost_ret (v := .tuple #[.agg #[.slice none 0 0, .int .i64 0], .int .i64 3]) (by simp [results, Tryd.results6, go_sem, hcz0, hcz1]) rfl (RowPost.zero HF.out ?_); exact (HB4.out.setCell (by simp) _).setCell (by simp) _


theorem linear_ParseRow.calls (a0 : Int) (a1 : ByteArray) (r1 : List Int) (r2 r3 : Int) (w : World) (hG : Glob w) (h : linear_ParseRow.f a0 a1 = some (r1, r2, r3)) :
    Calls Tryd.prog 6 #[.int .i64 a0, .string a1] w fun e w' => ∃ v0_ : Value, e = .returned (.tuple #[.agg #[v0_, .int .i64 r2], .int .i64 r3]) ∧ Kd.R (Kd.int .i64) 3 w' w.heap.size (fun _ => True) v0_ r1 ∧ Below w.heap.size w w' := by
  unfold linear_ParseRow.f at h
  split at h
  case isFalse => cases h
  rename_i hs
  have h' : parseF a0 a1.data.toList = (r1, r2, r3) := Option.some.inj h
  have key : Calls Tryd.prog 6 #[.int .i64 a0, .string a1] w (RowPost w (parseF a0 a1.data.toList)) := by
    by_cases h0 : a0 < 0
    · exact parse_low a0 a1 w h0
    · by_cases h1 : 96 < a0
      · exact parse_high a0 a1 w h1
      · by_cases h2 : 4000 < a1.size
        · exact parse_large a0 a1 w (by omega) (by omega) h2 hs
        · cases h3 : Lib.hasSuffix a1.data.toList endS
          · exact parse_nosuf a0 a1 w (by omega) (by omega) (by omega) hG h3
          · exact parse_main a0 a1 w (by omega) (by omega) (by omega) hG h3
  rw [h'] at key
  exact key
end Go.Proofs.YthgnpbaldhemiaaDoor.Pr
