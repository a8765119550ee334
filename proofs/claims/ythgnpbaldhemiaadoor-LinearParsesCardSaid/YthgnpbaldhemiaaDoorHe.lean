/- The contract of linear.item: what a word adds to the row under its pointer; conditions: the row's two blocks (RowSt), and what the library's variables hold (Glob). -/
import Derived.Test.YthgnpbaldhemiaaDoorHd
namespace Go.Proofs.YthgnpbaldhemiaaDoor.Pr
open Go.RowKit Go.Proofs.YthgnpbaldhemiaaDoorW.PrintWords Go.Proofs.YthgnpbaldhemiaaDoorW.PrintLast Go.Proofs.YthgnpbaldhemiaaDoorW.PrintMore
set_option linter.unusedVariables false
set_option linter.unusedSimpArgs false

/-- What item returns and leaves. -/
def ItemPost (w : World) (g s : Nat) (o : Option (List Int × Int)) (e : Ending) (w' : World) : Prop :=
  match o with
  | none => e = .returned (.bool false) ∧ Below w.heap.size w w'
  | some (cs, k) => e = .returned (.bool true) ∧ RowSt w' g s cs k ∧ Keep2 w w' g s
theorem ItemPost.no {w : World} {g s : Nat} {o : Option (List Int × Int)} {w' : World} (h : o = none) (hb : Below w.heap.size w w') : ItemPost w g s o (.returned (.bool false)) w' := by
  subst h
  exact ⟨rfl, hb⟩
theorem ItemPost.yes {w : World} {g s : Nat} {o : Option (List Int × Int)} {w' : World} {cs : List Int} {k : Int} (h : o = some (cs, k)) (hr : RowSt w' g s cs k) (hk : Keep2 w w' g s) : ItemPost w g s o (.returned (.bool true)) w' := by
  subst h
  exact ⟨rfl, hr, hk⟩
theorem set_coef {w w1 : World} {g s : Nat} {cs : List Int} {k : Int} (h : RowSt w g s cs k) (i : Nat) (v : Int) : RowSt (w.setCell ⟨s, i, none⟩ (.int .i64 v)) g s (cs.set i v) k := by
  refine ⟨?_, ?_, h.ne⟩
  · rw [List.length_set]
    exact blk_far h.row h.ne _
  · refine blk_put h.coef i _ ?_
    simp [nums, List.map_set]
theorem set_const {w : World} {g s : Nat} {cs : List Int} {k : Int} (h : RowSt w g s cs k) (v : Int) : RowSt (w.setCell ⟨g, 1, none⟩ (.int .i64 v)) g s cs v :=
  ⟨blk_put h.row 1 _ (by simp), blk_far h.coef h.ne.symm _, h.ne⟩
theorem atoi_one : Lib.atoiAll [49] = .ok 1 := by decide +kernel
theorem sign_mul {sign c : Int} (hs : sign = 1 ∨ sign = -1) (hc : inB c = true) : -68719476736 ≤ sign * c ∧ sign * c ≤ 68719476736 := by
  have := (inB_iff c).1 hc
  rcases hs with rfl | rfl <;> omega
theorem cut_len1 (s sp : List UInt8) : (Lib.cut s sp).1.length ≤ s.length := by
  unfold Lib.cut
  split <;> simp <;> omega
theorem cut_len2 (s sp : List UInt8) : (Lib.cut s sp).2.1.length ≤ s.length := by
  unfold Lib.cut
  split <;> simp <;> omega

set_option maxHeartbeats 2000000 in
set_option maxRecDepth 100000 in
theorem item_t (s : ByteArray) (hs : s.size ≤ 5000) (g sl : Nat) (cs : List Int) (k sign : Int) (w : World) (hn : cs.length ≤ 96) (hsg : sign = 1 ∨ sign = -1) (hst : RowSt w g sl cs k) (hG : Glob w) (hp : (Lib.cut s.data.toList [42]).2.2 = true) :
    Calls Tryd.prog 17 #[.pointer (some ⟨g, 0, none⟩), .int .i64 sign, .string s] w (ItemPost w g sl (itemF cs k sign s.data.toList)) := by
  have HS := Aside0.mk hst
  have HG := Aside0.mk hG
  have HP := Aside0.mk hp
  clear hst hG hp
  go_enter Tryd.func17, Tryd.ntmps17
  go_wp2_with fail
  refine (cut_any s (by omega) true HP.out _ HG.out).mono ?_
  rintro e w1 ⟨a, b, rfl, ha, hb, hbl⟩
  have HB1 := Aside0.mk hbl
  have HG1 := Aside0.mk (Glob_below HG.out hbl)
  have HS1 := Aside0.mk (HS.out.below hbl)
  have hal : a.size ≤ 5000 := by
    have h1 := cut_len1 s.data.toList [42]
    rw [← ha.out] at h1
    have h2 : a.data.toList.length = a.size := by simp
    have h3 : s.data.toList.length = s.size := by simp
    omega
  have hbl2 : b.size ≤ 5000 := by
    have h1 := cut_len2 s.data.toList [42]
    rw [← hb.out] at h1
    have h2 : b.data.toList.length = b.size := by simp
    have h3 : s.data.toList.length = s.size := by simp
    omega
  clear hbl
  go_wp2_with fail

  by_cases hx : Lib.hasPrefix b.data.toList [120] = true
  · refine (prefix_any b ⟨#[120]⟩ true hx _).mono ?_
    rintro e w' ⟨d, rfl, hd, rfl⟩
    have hdl : d.size ≤ 5000 := by
      have h1 := Lib.trimPrefix_le b.data.toList [120]
      have h4 := hd.out
      simp only at h4
      rw [← h4] at h1
      have h2 : d.data.toList.length = d.size := by simp
      have h3 : b.data.toList.length = b.size := by simp
      omega
    have HX := Aside0.mk hx
    clear hx
    go_wp2_with fail
    by_cases hi : ∃ i, Lib.atoiAll d.data.toList = .ok i
    · obtain ⟨i, hi⟩ := hi
      refine (atoi_good d hdl i hi _).mono ?_
      rintro e w2 ⟨rfl, hbl⟩
      have HI := Aside0.mk hi
      have HB2 := Aside0.mk (HB1.out.trans (hbl.mono HB1.out.size))
      have HG2 := Aside0.mk (Glob_below HG1.out hbl)
      have HS2 := Aside0.mk (HS1.out.below hbl)
      clear hbl hi
      go_wp2_with fail
      by_cases hc : ∃ c, Lib.atoiAll a.data.toList = .ok c
      · obtain ⟨c, hc⟩ := hc
        refine (atoi_good a hal c hc _).mono ?_
        rintro e w3 ⟨rfl, hbl⟩
        have HC := Aside0.mk hc
        have HB3 := Aside0.mk (HB2.out.trans (hbl.mono HB2.out.size))
        have HS3 := Aside0.mk (HS2.out.below hbl)
        clear hbl hc
        have hc0 : w3.cell? ⟨g, 0, none⟩ = some (.slice (some ⟨sl, 0, none⟩) cs.length cs.length) := (blk_cell HS3.out.row 0).trans rfl
        by_cases h0 : i < 0
        · have h0' : ¬ 0 ≤ i := by omega
          go_wp2_with fail
          go_ret
          refine ItemPost.no ?_ HB3.out
          rw [show itemF cs k sign s.data.toList = _ from rfl]; unfold itemF; simp only [HP.out, if_true, ← ha.out, ← hb.out, ← hd.out]
          simp [HX.out, HI.out, HC.out, h0'] <;> (intros; omega)
        · have h0' : 0 ≤ i := by omega
          by_cases h1 : i < cs.length
          · by_cases h2 : inB c = true
            · have HW : Aside0 (linear_within.f c = some true) := ⟨by rw [within_eq, h2]⟩
              have hcb := (inB_iff c).1 h2
              have hc1 := hcb.1
              have hc2 := hcb.2
              clear hcb
              have hm := sign_mul hsg h2
              have hm1 := hm.1
              have hm2 := hm.2
              clear hm
              have hcs : w3.cell? ⟨sl, i.toNat, none⟩ = some (.int .i64 (rd cs i)) := (blk_cell HS3.out.coef i.toNat).trans (by
                have : i.toNat < cs.length := by omega
                simp [nums, rd, this])
              have hfz := blk_frozen HS3.out.coef i.toNat
              go_wp2_with (first | (go_at_call 37; refine (linear_within.calls c true _ HW.out).mono ?_; rintro e w4 ⟨rfl, ⟨nd, rfl⟩⟩))
              go_ret
              refine ItemPost.yes (cs := cs.set i.toNat (sign * c)) (k := k) ?_ ?_ ?_
              · rw [show itemF cs k sign s.data.toList = _ from rfl]; unfold itemF; simp only [HP.out, if_true, ← ha.out, ← hb.out, ← hd.out]
                simp [HX.out, HI.out, HC.out, h0', h1, h2]
              · first | exact set_coef HS3.out i.toNat _ | (refine set_coef (w := World.drewN _ _) ?_ i.toNat _ (w1 := w3); exact ⟨HS3.out.row, HS3.out.coef, HS3.out.ne⟩)
              · first | exact (Keep2.of_below HB3.out _ _).set_ (.inr rfl) _ | exact (Keep2.of_below (pw_below_drewN HB3.out _) _ _).set_ (.inr rfl) _
            · have HW : Aside0 (linear_within.f c = some false) := ⟨by rw [within_eq]; simpa using h2⟩
              go_wp2_with (first | (go_at_call 37; refine (linear_within.calls c false _ HW.out).mono ?_; rintro e w4 ⟨rfl, ⟨nd, rfl⟩⟩))
              go_ret
              refine ItemPost.no ?_ (by first | exact HB3.out | exact pw_below_drewN HB3.out _)
              rw [show itemF cs k sign s.data.toList = _ from rfl]; unfold itemF; simp only [HP.out, if_true, ← ha.out, ← hb.out, ← hd.out]
              simp [HX.out, HI.out, HC.out, h2]
          · go_wp2_with fail
            go_ret
            refine ItemPost.no ?_ HB3.out
            rw [show itemF cs k sign s.data.toList = _ from rfl]; unfold itemF; simp only [HP.out, if_true, ← ha.out, ← hb.out, ← hd.out]
            simp [HX.out, HI.out, HC.out, h1] <;> (intros; omega)
      · refine (atoi_bad a hal (fun v hv => hc ⟨v, hv⟩) _ HG2.out).mono ?_
        rintro e w3 ⟨v, N, rfl, hbl⟩
        have HB3 := Aside0.mk (HB2.out.trans (hbl.mono HB2.out.size))
        have HC := Aside0.mk hc
        clear hbl hc
        go_wp2_with fail
        go_ret
        refine ItemPost.no ?_ HB3.out
        rw [show itemF cs k sign s.data.toList = _ from rfl]; unfold itemF; simp only [HP.out, if_true, ← ha.out, ← hb.out, ← hd.out]
        simp only [HX.out, HI.out, if_true]
        split
        · rename_i _ hc'
          exact absurd ⟨_, hc'⟩ HC.out
        · rfl
    · refine (atoi_bad d hdl (fun v hv => hi ⟨v, hv⟩) _ HG1.out).mono ?_
      rintro e w2 ⟨v, N, rfl, hbl⟩
      have HB2 := Aside0.mk (HB1.out.trans (hbl.mono HB1.out.size))
      have HG2 := Aside0.mk (Glob_below HG1.out hbl)
      have HI := Aside0.mk hi
      clear hbl hi
      go_wp2_with fail
      by_cases hc : ∃ c, Lib.atoiAll a.data.toList = .ok c
      · obtain ⟨c, hc⟩ := hc
        refine (atoi_good a hal c hc _).mono ?_
        rintro e w3 ⟨rfl, hbl⟩
        have HB3 := Aside0.mk (HB2.out.trans (hbl.mono HB2.out.size))
        clear hbl hc
        go_wp2_with fail
        go_ret
        refine ItemPost.no ?_ HB3.out
        rw [show itemF cs k sign s.data.toList = _ from rfl]; unfold itemF; simp only [HP.out, if_true, ← ha.out, ← hb.out, ← hd.out]
        simp only [HX.out, if_true]
        split
        · rename_i hc' _
          exact absurd ⟨_, hc'⟩ HI.out
        · rfl
      · refine (atoi_bad a hal (fun v hv => hc ⟨v, hv⟩) _ HG2.out).mono ?_
        rintro e w3 ⟨v, N, rfl, hbl⟩
        have HB3 := Aside0.mk (HB2.out.trans (hbl.mono HB2.out.size))
        clear hbl hc
        go_wp2_with fail
        go_ret
        refine ItemPost.no ?_ HB3.out
        rw [show itemF cs k sign s.data.toList = _ from rfl]; unfold itemF; simp only [HP.out, if_true, ← ha.out, ← hb.out, ← hd.out]
        simp only [HX.out, if_true]
        split
        · rename_i hc' _
          exact absurd ⟨_, hc'⟩ HI.out
        · rfl
  · refine (prefix_any b ⟨#[120]⟩ false (by simpa using hx) _).mono ?_
    rintro e w' ⟨d, rfl, hd, rfl⟩
    have HX : Aside0 (Lib.hasPrefix b.data.toList [120] = false) := ⟨by simpa using hx⟩
    clear hx
    go_wp2_with fail
    by_cases hc : ∃ c, Lib.atoiAll s.data.toList = .ok c
    · obtain ⟨c, hc⟩ := hc
      refine (atoi_good s hs c hc _).mono ?_
      rintro e w2 ⟨rfl, hbl⟩
      have HC := Aside0.mk hc
      have HB2 := Aside0.mk (HB1.out.trans (hbl.mono HB1.out.size))
      have HS2 := Aside0.mk (HS1.out.below hbl)
      clear hbl hc
      go_wp2_with fail
      go_ret
      refine ItemPost.no ?_ HB2.out
      rw [show itemF cs k sign s.data.toList = _ from rfl]; unfold itemF; simp only [HP.out, if_true, ← ha.out, ← hb.out, ← hd.out]
      simp [HX.out, HC.out]
    · refine (atoi_bad s hs (fun v hv => hc ⟨v, hv⟩) _ HG1.out).mono ?_
      rintro e w2 ⟨v, N, rfl, hbl⟩
      have HB2 := Aside0.mk (HB1.out.trans (hbl.mono HB1.out.size))
      have HC := Aside0.mk hc
      clear hbl hc
      go_wp2_with fail
      go_ret
      refine ItemPost.no ?_ HB2.out
      rw [show itemF cs k sign s.data.toList = _ from rfl]; unfold itemF; simp only [HP.out, if_true, ← ha.out, ← hb.out, ← hd.out]
      simp only [HX.out]
      split
      · rename_i hh
        exact absurd hh (by simp)
      · split
        · rename_i hc'
          exact absurd ⟨_, hc'⟩ HC.out
        · rfl

set_option maxHeartbeats 2000000 in
set_option maxRecDepth 100000 in
theorem item_f (s : ByteArray) (hs : s.size ≤ 5000) (g sl : Nat) (cs : List Int) (k sign : Int) (w : World) (hn : cs.length ≤ 96) (hsg : sign = 1 ∨ sign = -1) (hst : RowSt w g sl cs k) (hG : Glob w) (hp : (Lib.cut s.data.toList [42]).2.2 = false) :
    Calls Tryd.prog 17 #[.pointer (some ⟨g, 0, none⟩), .int .i64 sign, .string s] w (ItemPost w g sl (itemF cs k sign s.data.toList)) := by
  have HS := Aside0.mk hst
  have HG := Aside0.mk hG
  have HP := Aside0.mk hp
  clear hst hG hp
  go_enter Tryd.func17, Tryd.ntmps17
  go_wp2_with fail
  refine (cut_any s (by omega) false HP.out _ HG.out).mono ?_
  rintro e w1 ⟨a, b, rfl, ha, hb, hbl⟩
  have HB1 := Aside0.mk hbl
  have HG1 := Aside0.mk (Glob_below HG.out hbl)
  have HS1 := Aside0.mk (HS.out.below hbl)
  have hal : a.size ≤ 5000 := by
    have h1 := cut_len1 s.data.toList [42]
    rw [← ha.out] at h1
    have h2 : a.data.toList.length = a.size := by simp
    have h3 : s.data.toList.length = s.size := by simp
    omega
  have hbl2 : b.size ≤ 5000 := by
    have h1 := cut_len2 s.data.toList [42]
    rw [← hb.out] at h1
    have h2 : b.data.toList.length = b.size := by simp
    have h3 : s.data.toList.length = s.size := by simp
    omega
  clear hbl
  go_wp2_with fail

  by_cases hx : Lib.hasPrefix s.data.toList [120] = true
  · refine (prefix_any s ⟨#[120]⟩ true hx _).mono ?_
    rintro e w' ⟨d, rfl, hd, rfl⟩
    have hdl : d.size ≤ 5000 := by
      have h1 := Lib.trimPrefix_le s.data.toList [120]
      have h4 := hd.out
      simp only at h4
      rw [← h4] at h1
      have h2 : d.data.toList.length = d.size := by simp
      have h3 : s.data.toList.length = s.size := by simp
      omega
    have HX := Aside0.mk hx
    clear hx
    go_wp2_with fail
    by_cases hi : ∃ i, Lib.atoiAll d.data.toList = .ok i
    · obtain ⟨i, hi⟩ := hi
      refine (atoi_good d hdl i hi _).mono ?_
      rintro e w2 ⟨rfl, hbl⟩
      have HI := Aside0.mk hi
      have HB2 := Aside0.mk (HB1.out.trans (hbl.mono HB1.out.size))
      have HG2 := Aside0.mk (Glob_below HG1.out hbl)
      have HS2 := Aside0.mk (HS1.out.below hbl)
      clear hbl hi
      go_wp2_with fail
      by_cases hc : ∃ c, Lib.atoiAll (⟨#[49]⟩ : ByteArray).data.toList = .ok c
      · obtain ⟨c, hc⟩ := hc
        refine (atoi_good (⟨#[49]⟩ : ByteArray) (by show 1 ≤ 5000; omega) c hc _).mono ?_
        rintro e w3 ⟨rfl, hbl⟩
        have HC := Aside0.mk hc
        have HB3 := Aside0.mk (HB2.out.trans (hbl.mono HB2.out.size))
        have HS3 := Aside0.mk (HS2.out.below hbl)
        clear hbl hc
        have hc0 : w3.cell? ⟨g, 0, none⟩ = some (.slice (some ⟨sl, 0, none⟩) cs.length cs.length) := (blk_cell HS3.out.row 0).trans rfl
        by_cases h0 : i < 0
        · have h0' : ¬ 0 ≤ i := by omega
          go_wp2_with fail
          go_ret
          refine ItemPost.no ?_ HB3.out
          rw [show itemF cs k sign s.data.toList = _ from rfl]; unfold itemF; simp only [HP.out, Bool.false_eq_true, if_false, ← ha.out, ← hb.out, ← hd.out]
          simp [HX.out, HI.out, HC.out, h0'] <;> (intros; omega)
        · have h0' : 0 ≤ i := by omega
          by_cases h1 : i < cs.length
          · by_cases h2 : inB c = true
            · have HW : Aside0 (linear_within.f c = some true) := ⟨by rw [within_eq, h2]⟩
              have hcb := (inB_iff c).1 h2
              have hc1 := hcb.1
              have hc2 := hcb.2
              clear hcb
              have hm := sign_mul hsg h2
              have hm1 := hm.1
              have hm2 := hm.2
              clear hm
              have hcs : w3.cell? ⟨sl, i.toNat, none⟩ = some (.int .i64 (rd cs i)) := (blk_cell HS3.out.coef i.toNat).trans (by
                have : i.toNat < cs.length := by omega
                simp [nums, rd, this])
              have hfz := blk_frozen HS3.out.coef i.toNat
              go_wp2_with (first | (go_at_call 37; refine (linear_within.calls c true _ HW.out).mono ?_; rintro e w4 ⟨rfl, ⟨nd, rfl⟩⟩))
              go_ret
              refine ItemPost.yes (cs := cs.set i.toNat (sign * c)) (k := k) ?_ ?_ ?_
              · rw [show itemF cs k sign s.data.toList = _ from rfl]; unfold itemF; simp only [HP.out, Bool.false_eq_true, if_false, ← ha.out, ← hb.out, ← hd.out]
                simp [HX.out, HI.out, HC.out, h0', h1, h2]
              · first | exact set_coef HS3.out i.toNat _ | (refine set_coef (w := World.drewN _ _) ?_ i.toNat _ (w1 := w3); exact ⟨HS3.out.row, HS3.out.coef, HS3.out.ne⟩)
              · first | exact (Keep2.of_below HB3.out _ _).set_ (.inr rfl) _ | exact (Keep2.of_below (pw_below_drewN HB3.out _) _ _).set_ (.inr rfl) _
            · have HW : Aside0 (linear_within.f c = some false) := ⟨by rw [within_eq]; simpa using h2⟩
              go_wp2_with (first | (go_at_call 37; refine (linear_within.calls c false _ HW.out).mono ?_; rintro e w4 ⟨rfl, ⟨nd, rfl⟩⟩))
              go_ret
              refine ItemPost.no ?_ (by first | exact HB3.out | exact pw_below_drewN HB3.out _)
              rw [show itemF cs k sign s.data.toList = _ from rfl]; unfold itemF; simp only [HP.out, Bool.false_eq_true, if_false, ← ha.out, ← hb.out, ← hd.out]
              simp [HX.out, HI.out, HC.out, h2]
          · go_wp2_with fail
            go_ret
            refine ItemPost.no ?_ HB3.out
            rw [show itemF cs k sign s.data.toList = _ from rfl]; unfold itemF; simp only [HP.out, Bool.false_eq_true, if_false, ← ha.out, ← hb.out, ← hd.out]
            simp [HX.out, HI.out, HC.out, h1] <;> (intros; omega)
      · refine (atoi_bad (⟨#[49]⟩ : ByteArray) (by show 1 ≤ 5000; omega) (fun v hv => hc ⟨v, hv⟩) _ HG2.out).mono ?_
        rintro e w3 ⟨v, N, rfl, hbl⟩
        have HB3 := Aside0.mk (HB2.out.trans (hbl.mono HB2.out.size))
        have HC := Aside0.mk hc
        clear hbl hc
        go_wp2_with fail
        go_ret
        refine ItemPost.no ?_ HB3.out
        rw [show itemF cs k sign s.data.toList = _ from rfl]; unfold itemF; simp only [HP.out, Bool.false_eq_true, if_false, ← ha.out, ← hb.out, ← hd.out]
        simp only [HX.out, HI.out, if_true]
        split
        · rename_i _ hc'
          exact absurd ⟨_, hc'⟩ HC.out
        · rfl
    · refine (atoi_bad d hdl (fun v hv => hi ⟨v, hv⟩) _ HG1.out).mono ?_
      rintro e w2 ⟨v, N, rfl, hbl⟩
      have HB2 := Aside0.mk (HB1.out.trans (hbl.mono HB1.out.size))
      have HG2 := Aside0.mk (Glob_below HG1.out hbl)
      have HI := Aside0.mk hi
      clear hbl hi
      go_wp2_with fail
      by_cases hc : ∃ c, Lib.atoiAll (⟨#[49]⟩ : ByteArray).data.toList = .ok c
      · obtain ⟨c, hc⟩ := hc
        refine (atoi_good (⟨#[49]⟩ : ByteArray) (by show 1 ≤ 5000; omega) c hc _).mono ?_
        rintro e w3 ⟨rfl, hbl⟩
        have HB3 := Aside0.mk (HB2.out.trans (hbl.mono HB2.out.size))
        clear hbl hc
        go_wp2_with fail
        go_ret
        refine ItemPost.no ?_ HB3.out
        rw [show itemF cs k sign s.data.toList = _ from rfl]; unfold itemF; simp only [HP.out, Bool.false_eq_true, if_false, ← ha.out, ← hb.out, ← hd.out]
        simp only [HX.out, if_true]
        split
        · rename_i hc' _
          exact absurd ⟨_, hc'⟩ HI.out
        · rfl
      · refine (atoi_bad (⟨#[49]⟩ : ByteArray) (by show 1 ≤ 5000; omega) (fun v hv => hc ⟨v, hv⟩) _ HG2.out).mono ?_
        rintro e w3 ⟨v, N, rfl, hbl⟩
        have HB3 := Aside0.mk (HB2.out.trans (hbl.mono HB2.out.size))
        clear hbl hc
        go_wp2_with fail
        go_ret
        refine ItemPost.no ?_ HB3.out
        rw [show itemF cs k sign s.data.toList = _ from rfl]; unfold itemF; simp only [HP.out, Bool.false_eq_true, if_false, ← ha.out, ← hb.out, ← hd.out]
        simp only [HX.out, if_true]
        split
        · rename_i hc' _
          exact absurd ⟨_, hc'⟩ HI.out
        · rfl
  · refine (prefix_any s ⟨#[120]⟩ false (by simpa using hx) _).mono ?_
    rintro e w' ⟨d, rfl, hd, rfl⟩
    have HX : Aside0 (Lib.hasPrefix s.data.toList [120] = false) := ⟨by simpa using hx⟩
    clear hx
    go_wp2_with fail
    by_cases hc : ∃ c, Lib.atoiAll s.data.toList = .ok c
    · obtain ⟨c, hc⟩ := hc
      refine (atoi_good s hs c hc _).mono ?_
      rintro e w2 ⟨rfl, hbl⟩
      have HC := Aside0.mk hc
      have HB2 := Aside0.mk (HB1.out.trans (hbl.mono HB1.out.size))
      have HS2 := Aside0.mk (HS1.out.below hbl)
      clear hbl hc
      by_cases h2 : inB c = true
      · have HW : Aside0 (linear_within.f c = some true) := ⟨by rw [within_eq, h2]⟩
        have hcb := (inB_iff c).1 h2
        have hc1 := hcb.1
        have hc2 := hcb.2
        clear hcb
        have hm := sign_mul hsg h2
        have hm1 := hm.1
        have hm2 := hm.2
        clear hm
        have hcs : w2.cell? ⟨g, 1, none⟩ = some (.int .i64 k) := (blk_cell HS2.out.row 1).trans rfl
        have hfz := blk_frozen HS2.out.row 1
        go_wp2_with (first | (go_at_call 37; refine (linear_within.calls c true _ HW.out).mono ?_; rintro e w4 ⟨rfl, ⟨nd, rfl⟩⟩))
        go_ret
        refine ItemPost.yes (cs := cs) (k := sign * c) ?_ ?_ ?_
        · rw [show itemF cs k sign s.data.toList = _ from rfl]; unfold itemF; simp only [HP.out, Bool.false_eq_true, if_false, ← ha.out, ← hb.out, ← hd.out]
          simp [HX.out, HC.out, h2]
        · exact set_const (w := World.drewN _ _) ⟨HS2.out.row, HS2.out.coef, HS2.out.ne⟩ _
        · exact (Keep2.of_below (pw_below_drewN HB2.out _) _ _).set_ (.inl rfl) _
      · have HW : Aside0 (linear_within.f c = some false) := ⟨by rw [within_eq]; simpa using h2⟩
        go_wp2_with (first | (go_at_call 37; refine (linear_within.calls c false _ HW.out).mono ?_; rintro e w4 ⟨rfl, ⟨nd, rfl⟩⟩))
        go_ret
        refine ItemPost.no ?_ (pw_below_drewN HB2.out _)
        rw [show itemF cs k sign s.data.toList = _ from rfl]; unfold itemF; simp only [HP.out, Bool.false_eq_true, if_false, ← ha.out, ← hb.out, ← hd.out]
        simp [HX.out, HC.out, h2]
    · refine (atoi_bad s hs (fun v hv => hc ⟨v, hv⟩) _ HG1.out).mono ?_
      rintro e w2 ⟨v, N, rfl, hbl⟩
      have HB2 := Aside0.mk (HB1.out.trans (hbl.mono HB1.out.size))
      have HC := Aside0.mk hc
      clear hbl hc
      go_wp2_with fail
      go_ret
      refine ItemPost.no ?_ HB2.out
      rw [show itemF cs k sign s.data.toList = _ from rfl]; unfold itemF; simp only [HP.out, Bool.false_eq_true, if_false, ← ha.out, ← hb.out, ← hd.out]
      simp only [HX.out]
      split
      · rename_i hh
        exact absurd hh (by simp)
      · split
        · rename_i hc'
          exact absurd ⟨_, hc'⟩ HC.out
        · rfl

theorem item_any (s : ByteArray) (hs : s.size ≤ 5000) (g sl : Nat) (cs : List Int) (k sign : Int) (w : World) (hn : cs.length ≤ 96) (hsg : sign = 1 ∨ sign = -1) (hst : RowSt w g sl cs k) (hG : Glob w) :
    Calls Tryd.prog 17 #[.pointer (some ⟨g, 0, none⟩), .int .i64 sign, .string s] w (ItemPost w g sl (itemF cs k sign s.data.toList)) := by
  cases hp : (Lib.cut s.data.toList [42]).2.2
  · exact item_f s hs g sl cs k sign w hn hsg hst hG hp
  · exact item_t s hs g sl cs k sign w hn hsg hst hG hp

end Go.Proofs.YthgnpbaldhemiaaDoor.Pr
