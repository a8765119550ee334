/- What the program's package-level variables hold (Glob), and contracts of linear.clone and linear.write; conditions: each theorem's own premises. -/
import Derived.Test.YthgnpbaldhemiaaDoorPx0
import Derived.Test.YthgnpbaldhemiaaDoorShelf
import Derived.WalkSmall
import Derived.Lib.Hide
import Derived.Laws.CopyOwn
import Derived.Outline
import Derived.Deep.DeepFit
namespace Go.Proofs.YthgnpbaldhemiaaDoor.Pr
open Go.RowKit Go.Proofs.YthgnpbaldhemiaaDoorW.PrintWords Go.Proofs.YthgnpbaldhemiaaDoorW.PrintLast Go.Proofs.YthgnpbaldhemiaaDoorW.PrintMore
set_option linter.unusedVariables false
set_option linter.unusedSimpArgs false

theorem gnSyn : Tryd.prog.globalNamed "strconv.ErrSyntax" = some 1 := by kernel_rfl
theorem gnRng : Tryd.prog.globalNamed "strconv.ErrRange" = some 2 := by kernel_rfl
theorem gnPow : Tryd.prog.globalNamed "internal/strconv.uint64pow10" = some 3 := by kernel_rfl

/-- What the variables of the library hold that the contracts below read. -/
structure Glob (w : World) : Prop where
  size : 8 ≤ w.heap.size
  maxLen : ∃ m, w.cell? ⟨0, 0, none⟩ = some (.int .i64 m)
  syn : ∃ tp p, w.var? Tryd.prog "strconv.ErrSyntax" = some #[.iface tp p]
  rng : ∃ tp p, w.var? Tryd.prog "strconv.ErrRange" = some #[.iface tp p]
  pow : Lib.TabIs Tryd.prog w "internal/strconv.uint64pow10" .u64 Lib.pow10Tab
theorem Glob_below {w w1 : World} (h : Glob w) (hb : Below w.heap.size w w1) : Glob w1 := by
  obtain ⟨hs, ⟨m, hm⟩, ⟨tp, p, hp⟩, ⟨tq, q, hq⟩, ht⟩ := h
  exact ⟨Nat.le_trans hs hb.size, ⟨m, (hb.cell (by simp; omega)).trans hm⟩, ⟨tp, p, var?_below hb gnSyn (by omega) hp⟩, ⟨tq, q, var?_below hb gnRng (by omega) hq⟩, var?_below hb gnPow (by omega) ht⟩
theorem Glob_drew {w : World} (h : Glob w) : Glob w.drew := Glob_below h ⟨rfl, rfl, rfl, Nat.le_refl _, fun _ _ => rfl⟩
theorem Glob_drewN {w : World} (h : Glob w) (n : Nat) : Glob (w.drewN n) := Glob_below h (below_drewN (Below.refl _ _) n)
theorem Glob_alloc {w : World} (h : Glob w) (o : Obj) : Glob (w.alloc o) := Glob_below h ((Below.refl _ _).alloc (Nat.le_refl _) o)

theorem info_parts {P : Program} {T : Nat} {z : Value} {s b : Nat} (h : (P.info? T).map (fun i => (i.zero, i.size, i.bytes)) = some (some z, s, b)) : ∃ i, P.info? T = some i ∧ i.zero = some z ∧ i.size = s ∧ i.bytes = b := by
  obtain ⟨i, hi, e⟩ := Option.map_eq_some_iff.1 h
  simp only [Prod.mk.injEq] at e
  exact ⟨i, hi, e.1, e.2.1, e.2.2⟩
/-- A row of zeros that was just made, whole. -/
theorem own_made {w : World} {base : Nat} {e : TypeId} {g n : Nat} {xs : List Value} (h : w.ownsRow base e 1 (.slice (some ⟨g, 0, none⟩) n n) n xs) : w.heap[g]? = some (.cells xs.toArray e (0, 0)) := by
  obtain ⟨h1, h2 | ⟨g', cap, cur, he, hb, hh, hn, hm, hsz, ht⟩⟩ := h
  · obtain ⟨h2, rfl⟩ := h2
    cases h2
  · injection he with e1 e2 e3
    injection e1 with e1
    injection e1 with e1
    subst e1 e3
    rw [hh]
    congr 2
    have : cur.toList.take (n * 1) = cur.toList := List.take_of_length_le (by simp; omega)
    rw [this] at ht
    rw [← ht]

/-! linear.clone -/
def linear_clone.f (l0_0 : List Int) (a0_1 : Int) : Option (List Int × Int) := if l0_0.length ≤ 1000 then some (l0_0, a0_1) else none
set_option maxHeartbeats 1000000 in
set_option maxRecDepth 100000 in
theorem linear_clone.calls (A0_0 : Option Addr) (c0_0 : Nat) (l0_0 : List Int) (a0_1 : Int) (r1 : List Int) (r2 : Int) (w : World) (hr0_0 : Kd.C (Kd.int .i64) w A0_0 l0_0.length l0_0) (hc0_0 : l0_0.length ≤ c0_0) (h : linear_clone.f l0_0 a0_1 = some (r1, r2)) :
    Calls Tryd.prog 27 #[.agg #[.slice A0_0 l0_0.length c0_0, .int .i64 a0_1]] w fun e w' => ∃ v0_ : Value, e = .returned (.agg #[v0_, .int .i64 r2]) ∧ Kd.R (Kd.int .i64) 3 w' w.heap.size (fun _ => True) v0_ r1 ∧ Below w.heap.size w w' := by
  unfold linear_clone.f at h
  split at h
  case isFalse => cases h
  rename_i hl
  simp only [Option.some.injEq, Prod.mk.injEq] at h
  obtain ⟨rfl, rfl⟩ := h
  have HR := Aside0.mk hr0_0
  clear hr0_0
  obtain ⟨i0, hi0, hz0, hz1, hz2⟩ := info_parts info3
  go_enter Tryd.func27, Tryd.ntmps27
  go_wp2_with ((with_reducible refine wpList_make_full _ rfl (.tmp 6) (.tmp 6) 23 rfl (w.heap.size + 2) 3 i0 (.int .i64 0) 1 Tryd.underlying23 hi0 hz0 hz1 .i64 .i64 l0_0.length l0_0.length l0_0.length rfl rfl rfl rfl ?c1 ?c2 ?c3 ?_))
  case c1 => rw [hz2]; omega
  case c2 => unfold maxLen; omega
  case c3 => simp
  intro w1 ho hg
  have hsz2 : ((w.alloc (Obj.cells #[Value.slice A0_0 l0_0.length c0_0, Value.int IntKind.i64 a0_1] 25)).alloc (Obj.cells #[Value.slice none 0 0, Value.int IntKind.i64 0] 25)).heap.size = w.heap.size + 1 + 1 := by simp
  replace ho : w1.ownsRow (w.heap.size + 2) 3 1 (.slice (some ⟨w.heap.size + 2, 0, none⟩) l0_0.length l0_0.length) l0_0.length _ := ho
  have HB1 : Aside0 (Below (w.heap.size + 2) ((w.alloc (Obj.cells #[Value.slice A0_0 l0_0.length c0_0, Value.int IntKind.i64 a0_1] 25)).alloc (Obj.cells #[Value.slice none 0 0, Value.int IntKind.i64 0] 25)) w1) := ⟨⟨hg.os, hg.tape, hg.output, hg.size, fun k hk => hg.block k (by rw [hsz2]; exact hk) (by simp)⟩⟩
  have hblk := Aside0.mk (own_made ho)
  have hn1 := Aside0.mk (own_lt ho (w.heap.size + 2) (by simp [Value.ownBlock]))
  clear ho hg hsz2
  have hx0 : w1.cell? ⟨w.heap.size, 0, none⟩ = some (.slice A0_0 l0_0.length c0_0) := (HB1.out.cell (by simp)).trans (by go_simp)
  have hx1 : w1.cell? ⟨w.heap.size, 1, none⟩ = some (.int .i64 a0_1) := (HB1.out.cell (by simp)).trans (by go_simp)
  have HBw : Aside0 (Below w.heap.size w w1) := ⟨((((Below.refl _ _).alloc (Nat.le_refl _) _).alloc (by simp) _).trans (HB1.out.mono (by omega)))⟩
  have HC := Aside0.mk (Kd.reads_of_C (d := (0 : Int)) HR.out)
  go_wp2_with ((with_reducible refine wpList_copy_splice rfl (.tmp 8) (.tmp 10) 23 23 rfl 3 Tryd.underlying23 (by kernel_rfl) (some ⟨w.heap.size + 1 + 1, 0, none⟩) A0_0 l0_0.length l0_0.length l0_0.length c0_0 rfl rfl (w.heap.size + 2) 0 _ 3 hblk.out (nums .i64 l0_0) ?d1 ?d2 ?d3 ?d4 (w.heap.size + 2) w1 (Below.refl _ _) (Nat.le_refl _) ?_))
  case d1 => simp [nums]
  case d2 =>
    intro hp
    have hp' : 0 < l0_0.length := by simpa [nums] using hp
    obtain ⟨_, _, hc⟩ := HC.out
    obtain ⟨ad, e, hc⟩ := hc hp'
    refine ⟨ad, e, fun j v hj => ?_⟩
    have hj' : j < l0_0.length := by
      have := (List.getElem?_eq_some_iff.1 hj).1
      simpa [nums] using this
    have hv := encs_get (enc := Value.int .i64) (d := (0 : Int)) l0_0 j hj'
    rw [show encs (Value.int .i64) l0_0 = nums .i64 l0_0 from rfl, hj] at hv
    injection hv with hv
    subst hv
    exact (HBw.out.cell (World.block_lt_of_cell? w _ (hc j hj'))).trans (hc j hj')
  case d3 => simp [nums, madeCells]
  case d4 =>
    intro v hv
    obtain ⟨x, _, rfl⟩ := List.mem_map.1 hv
    rfl
  intro w2 hb2 hB2
  have hx0 : w2.cell? ⟨w.heap.size, 0, none⟩ = some (.slice A0_0 l0_0.length c0_0) := (hB2.cell (by simp)).trans hx0
  have hx1 : w2.cell? ⟨w.heap.size, 1, none⟩ = some (.int .i64 a0_1) := (hB2.cell (by simp)).trans hx1
  have hy0 : w2.cell? ⟨w.heap.size + 1, 0, none⟩ = some (.slice none 0 0) := (hB2.cell (by simp)).trans ((HB1.out.cell (by simp)).trans (by go_simp))
  have hy1 : w2.cell? ⟨w.heap.size + 1, 1, none⟩ = some (.int .i64 0) := (hB2.cell (by simp)).trans ((HB1.out.cell (by simp)).trans (by go_simp))
  have hf0 : w2.frozen? ⟨w.heap.size + 1, 0, none⟩ = false := (hB2.frozen (by simp)).trans ((HB1.out.frozen (by simp)).trans (by go_simp))
  have hf1 : w2.frozen? ⟨w.heap.size + 1, 1, none⟩ = false := (hB2.frozen (by simp)).trans ((HB1.out.frozen (by simp)).trans (by go_simp))
  have hown : w2.ownsRow w.heap.size 3 1 (.slice (some ⟨w.heap.size + 1 + 1, 0, none⟩) l0_0.length l0_0.length) l0_0.length (nums .i64 l0_0) := by
    refine ⟨by simp [nums], .inr ⟨w.heap.size + 2, l0_0.length, _, rfl, by omega, hb2, Nat.le_refl _, by unfold maxLen; omega, ?_, ?_⟩⟩
    · simp [splice, nums, madeCells]
    · simp [splice, nums, madeCells]
  have HO := Aside0.mk hown
  clear hown hb2
  go_wp2
  refine bodyPost_ret (v := .agg #[.slice (some ⟨w.heap.size + 1 + 1, 0, none⟩) l0_0.length l0_0.length, .int .i64 a0_1]) (by simp [results, Tryd.results27, go_sem, hy0, hy1]) rfl ⟨_, rfl, ?_, ?_⟩
  · refine Kd.R_of_own (enc := Value.int .i64) ?_ (fun _ _ => trivial)
    refine own_setCell (own_setCell HO.out ?_ _) ?_ _
    · simp [Value.ownBlock]
    · simp [Value.ownBlock]
  · exact ((HBw.out.trans (hB2.mono (by omega))).setCell (by simp) _).setCell (by simp) _
end Go.Proofs.YthgnpbaldhemiaaDoor.Pr
