/- LinearParses: the walk, the row, and its tied card. -/
import Derived.Test.YthgnpbaldhemiaaDoorLaid
import Derived.Test.YthgnpbaldhemiaaDoorLw
import Derived.Test.YthgnpbaldhemiaaDoorRp
namespace Go.Proofs.YthgnpbaldhemiaaDoor.Parses
open Go.ChangeShapes Go.WideShapes Go.ChangeAt Go.RowKit
open Go.ChangeMaps (open_string shut_string)
open Go.Proofs.YthgnpbaldhemiaaDoorW.PrintWords Go.Proofs.YthgnpbaldhemiaaDoorW.PrintLast Go.Proofs.YthgnpbaldhemiaaDoorW.PrintMore
open Go.Proofs.YthgnpbaldhemiaaDoor.Pr Go.Proofs.YthgnpbaldhemiaaDoor.Laid
set_option linter.unusedVariables false
set_option linter.unusedSimpArgs false
set_option maxRecDepth 100000

theorem parse_len {v : Int} {t : List UInt8} {cs : List Int} {k e : Int} (h : parseF v t = (cs, k, e)) : cs.length ≤ 96 := by
  by_cases he : e = 0
  · subst he
    exact (parse_back h).2.1
  · rw [(parse_err h he).1]
    exact Nat.zero_le _

set_option maxHeartbeats 4000000 in
theorem walk (v : Int) (t : ByteArray) (w : World) (hG : Glob w) (hs : t.size ≤ 9223372036854775807) :
    Calls Tryd.prog 3 #[.int .i64 v, .string t] w fun e w' => e = .returned (.bool true) ∧ Below w.heap.size w w' := by
  have HG := Aside0.mk hG
  clear hG
  have hu25 := Tryd.underlying25
  go_enter Tryd.func3, Tryd.ntmps3
  by_cases c1 : (5000 : Int) < (t.size : Int)
  · have c1b : decide ((5000 : Int) < (t.size : Int)) = true := decide_eq_true c1
    go_wp2_with fail
    refine (familychecklaw01_known.calls 40 true _ HG.out known_true).mono ?_
    rintro e w1 ⟨rfl, hb⟩
    have HB := Aside0.mk hb
    clear hb
    go_wp2_with fail
    go_ret
    exact ⟨rfl, HB.out⟩
  · have c1b : decide ((5000 : Int) < (t.size : Int)) = false := decide_eq_false c1
    rcases hp : parseF v t.data.toList with ⟨cs, k, e0⟩
    have hlen := parse_len hp
    have HSR := Aside0.mk (same_self cs k (by omega) 300 (by omega))
    have H1 : Aside0 (linear_ParseRow.f v t = some (cs, k, e0)) := ⟨by unfold linear_ParseRow.f; rw [if_pos hs, hp]⟩
    have H2 : Aside0 (familycheckref01_ParseRow.f v t = some (cs, k, e0)) := ⟨by unfold familycheckref01_ParseRow.f; rw [if_pos hs, hp]⟩
    clear hp
    go_wp2_with fail
    refine (linear_ParseRow.calls v t cs k e0 _ HG.out H1.out).mono ?_
    rintro e w1 ⟨v0, rfl, ho, hb⟩
    obtain ⟨A, c, rfl⟩ := Kd.R_slice ho
    have hrd := Kd.R_reads' ho
    have HC1 := Aside0.mk hrd.2.2
    have HL1 := Aside0.mk hrd.2.1
    have HB1 := Aside0.mk hb
    clear ho hb hrd H1
    obtain ⟨w2, hw2⟩ : ∃ w2, w2 = w1.alloc (Obj.cells #[.slice A cs.length c, .int .i64 k] 25) := ⟨_, rfl⟩
    have HB2 : Aside0 (Below w1.heap.size w1 w2) := ⟨by rw [hw2]; exact (Below.refl _ _).alloc (Nat.le_refl _) _⟩
    have HR2 : Aside0 (w2.heap[w1.heap.size]? = some (.cells #[.slice A cs.length c, .int .i64 k] 25 (0, 0))) := ⟨by rw [hw2]; exact heap_new _ _⟩
    have HBw2 : Aside0 (Below w.heap.size w w2) := ⟨HB1.out.trans (HB2.out.mono HB1.out.size)⟩
    have HG2 := Aside0.mk (Glob_below HG.out HBw2.out)
    have HC2 := Aside0.mk (Kd.C_below HC1.out HB2.out)
    go_wp2_with fail
    rw [← hw2]
    clear hw2 HB1 HB2 HC1
    refine (familycheckref01_ParseRow.calls v t cs k e0 _ H2.out).mono ?_
    rintro e w3 ⟨v1, rfl, ho, hb⟩
    obtain ⟨A1, c3, rfl⟩ := Kd.R_slice ho
    have hrd := Kd.R_reads' ho
    have HC3 := Aside0.mk hrd.2.2
    have HL3 := Aside0.mk hrd.2.1
    have HBw3 : Aside0 (Below w.heap.size w w3) := ⟨HBw2.out.trans (hb.mono HBw2.out.size)⟩
    have HR3 := Aside0.mk (blk_below HR2.out hb)
    have HD3 := Aside0.mk (Kd.C_below HC2.out hb)
    clear ho hb hrd H2 HR2 HC2 HG2 HBw2
    obtain ⟨w4, hw4⟩ : ∃ w4, w4 = w3.alloc (Obj.cells #[.slice A1 cs.length c3, .int .i64 k] 25) := ⟨_, rfl⟩
    have HB4 : Aside0 (Below w3.heap.size w3 w4) := ⟨by rw [hw4]; exact (Below.refl _ _).alloc (Nat.le_refl _) _⟩
    have HS4 : Aside0 (w4.heap[w3.heap.size]? = some (.cells #[.slice A1 cs.length c3, .int .i64 k] 25 (0, 0))) := ⟨by rw [hw4]; exact heap_new _ _⟩
    have HBw4 : Aside0 (Below w.heap.size w w4) := ⟨HBw3.out.trans (HB4.out.mono HBw3.out.size)⟩
    have HG4 := Aside0.mk (Glob_below HG.out HBw4.out)
    have HC4 := Aside0.mk (Kd.C_below HC3.out HB4.out)
    have HD4 := Aside0.mk (Kd.C_below HD3.out HB4.out)
    have HR4 := Aside0.mk (blk_below HR3.out HB4.out)
    have hx0 : w4.cell? ⟨w1.heap.size, 0, none⟩ = some (.slice A cs.length c) := (blk_cell HR4.out 0).trans rfl
    have hx1 : w4.cell? ⟨w1.heap.size, 1, none⟩ = some (.int .i64 k) := (blk_cell HR4.out 1).trans rfl
    have hy0 : w4.cell? ⟨w3.heap.size, 0, none⟩ = some (.slice A1 cs.length c3) := (blk_cell HS4.out 0).trans rfl
    have hy1 : w4.cell? ⟨w3.heap.size, 1, none⟩ = some (.int .i64 k) := (blk_cell HS4.out 1).trans rfl
    go_upto_region 5 with (fail)
    rw [← hw4]
    clear hw4 HB4 HC3 HD3 HR3 HBw3
    go_wp2_with fail
    refine (familycheckref01_SameRow.calls 300 A c cs k A1 c3 cs k true _ HD4.out HL1.out HC4.out HL3.out HSR.out).mono ?_
    rintro e w5 ⟨rfl, hb⟩
    have HBw5 := Aside0.mk (HBw4.out.trans (hb.mono HBw4.out.size))
    have HG5 := Aside0.mk (Glob_below HG4.out hb)
    clear hb hx0 hx1 hy0 hy1
    go_wp2_with fail
    refine (familychecklaw01_known.calls 40 true _ HG5.out known_true).mono ?_
    rintro e w6 ⟨rfl, hb⟩
    have HBw6 := Aside0.mk (HBw5.out.trans (hb.mono HBw5.out.size))
    clear hb
    go_wp2_with fail
    go_ret
    exact ⟨rfl, HBw6.out⟩

theorem reads (os : Os) {H : Type} (enc : TypeId × Value → H) : ∃ places, DataW.whole enc Tryd.prog ((laidWorld os).forCall (fun _ _ => 0) ⟨#[], #[.int .i64 0, .string ByteArray.empty], []⟩).memory Tryd.f3.params.toList Rows.linearParsesSpec.vars false #[Value.int .i64 0, Value.string ByteArray.empty].toList 8 = some ([.lit (.int .i64 0), .lit (.string [])], [], places) :=
  ⟨[], by kernel_rfl⟩

theorem lifted (os : Os) (started : os.Started) (H : Type) (enc : TypeId × Value → H) (F : Stop.Interp) :
    ReturnsInHanded {} Tryd.checked os 3 .any ((OpenSpec.ofChange Rows.linearParsesSpec).preRow enc Tryd.prog Tryd.f3 Rows.linearParsesRow.domain false Rows.linearParsesRow.laid) (((OpenSpec.ofChange Rows.linearParsesSpec).at F).post enc Tryd.prog Tryd.f3 false true false false) := by
  obtain ⟨places, hx⟩ := reads os enc
  refine returnsInHanded_of_row (C := Tryd.checked) (s := OpenSpec.ofChange Rows.linearParsesSpec) own started (by kernel_rfl) Tryd.func3
    (witness_row_at (enc := enc) (C := Tryd.checked) false (laidWorld os) #[.int .i64 0, .string ByteArray.empty] rfl (by kernel_rfl) (by kernel_rfl) (by kernel_rfl)
      (OpenSpec.preRow_of_cond 8 hx (by kernel_rfl) (fun k hk => by cases hk) (by kernel_rfl) (laid_met os _))) ?_
  intro W base args ds gs before hval0 hW _ _ _ hL hS _
  have hval : ∀ (j : Nat) t v, Tryd.f3.params[j]? = some t → args[j]? = some v → Value.okWide Tryd.prog W .any base t v := hval0
  have hW' := hW
  obtain ⟨p, q, hA0, hV, rfl, hfz, hnd⟩ := hW
  have hA : DataW.TrodAll enc Tryd.prog W 0 (fun _ => true) true Tryd.f3.params.toList args.toList ds p := hA0
  rw [Tryd.params3] at hA hval
  obtain ⟨v1, vs1, d1, ds1, p1, q1, hargs, rfl, rfl, h1, r1⟩ := trodAll_cons hA
  obtain ⟨v2, vs2, d2, ds2, p2, q2, rfl, rfl, rfl, h2, r2⟩ := trodAll_cons r1
  obtain ⟨rfl, rfl, rfl⟩ := trodAll_nil r2
  obtain rfl : args = #[v1, v2] := by cases args; simp_all
  obtain ⟨rfl, rfl⟩ := trodVars_none hV
  obtain ⟨a1, rfl, rfl, rfl, w1⟩ := open_int Tryd.underlying3 (hval 0 3 v1 rfl rfl) h1
  obtain ⟨a2, rfl, rfl, rfl, y2⟩ := open_string Tryd.underlying9 (hval 1 9 v2 rfl rfl) h2
  clear hA0 hval0
  refine (walk a1 a2 W (glob hL hS) y2).mono fun e W' ⟨he, bel⟩ => ?_
  subst he
  exact ⟨_, rfl, _, _, _, [], _, [], hW', trodAll_mk1 (shut_bool Tryd.underlying4 _), (trodAll_cons_mk (shut_int Tryd.underlying3 w1) (trodAll_cons_mk (shut_string Tryd.underlying9 y2) trodAll_mk0)), rfl, bel.frame _, fun h => by cases h⟩

theorem said : Rows.LinearParsesSaid :=
  OpenClaim.holds_of_cond 3 Tryd.f3 rfl rfl rfl rfl rfl rfl rfl ⟨rfl, rfl, rfl, rfl, rfl⟩ rfl rfl rfl rfl rfl (by kernel_rfl) Tryd.func3 (by kernel_rfl)
    (of_decide_eq_true (by kernel_rfl)) (by unfold Func.isWrapper; first | (rw [if_pos (by decide +kernel)]; kernel_rfl) | (rw [if_neg (by decide +kernel)]; exact ⟨rfl, rfl⟩))
    (fun os started H enc _ F => by rw [OpenClaim.pre_eq_preRow]; exact lifted os started H enc F)

theorem plain (f : FuncId) (fn : Func) (hf : Tryd.pinned.checked.prog.funcNamed "familycheck/familychecklaw01.LinearParses" = some f) (hfn : Tryd.pinned.checked.prog.funcs[f]? = some fn) :
    true = Tryd.pinned.checked.prog.looks [] ∧ ∀ (j : Nat) t, fn.params[j]? = some t → Tryd.pinned.checked.prog.wantsStandIn t = false := by
  obtain rfl : f = 3 := Option.some.inj ((show Tryd.prog.funcNamed "familycheck/familychecklaw01.LinearParses" = some 3 by kernel_rfl).symm.trans hf) |>.symm
  obtain rfl : fn = Tryd.f3 := (Option.some.inj (Tryd.func3.symm.trans hfn)).symm
  refine ⟨by kernel_rfl, fun j t ht => ?_⟩
  rw [Tryd.params3] at ht
  have hm : t = 3 ∨ t = 9 := by simpa using Array.mem_of_getElem? ht
  rcases hm with rfl | rfl
  · exact (show Tryd.prog.wantsStandIn 3 = false by kernel_rfl)
  · exact (show Tryd.prog.wantsStandIn 9 = false by kernel_rfl)

theorem card : Rows.LinearParsesCardSaid :=
  Claim7.holds_tied_plain_at .later [] _ _ _ _ said (fun _ h => by cases h) (by kernel_rfl) (fun _ h => by cases h) linearParses_row_tie rfl ⟨rfl, rfl⟩ (by kernel_rfl) rfl plain (by kernel_rfl)
#print axioms card

end Go.Proofs.YthgnpbaldhemiaaDoor.Parses
