/- A struct's variable is stored whole into another: one step. Conditions: each theorem's own premises. -/
import Derived.Test.YtoggkfapdomhgaaDoorHh
import Derived.Deep.MidRow
namespace Go.Proofs.YtoggkfapdomhgaaDoor.Pr
open Go.RowKit Go.Proofs.YtoggkfapdomhgaaDoorW.PrintWords Go.Proofs.YtoggkfapdomhgaaDoorW.PrintLast Go.Proofs.YtoggkfapdomhgaaDoorW.PrintMore
set_option linter.unusedVariables false
set_option linter.unusedSimpArgs false
theorem sets_spec (g : Nat) (t : TypeId) : ∀ (vs : List Value) (o : Nat) (w : World) (c : Array Value), w.heap[g]? = some (.cells c t (0, 0)) →
    ∃ c', (w.setCells g o vs).heap[g]? = some (.cells c' t (0, 0)) ∧ c'.size = c.size ∧ (∀ j, j < c.size → c'[j]? = if o ≤ j ∧ j < o + vs.length then vs[j - o]? else c[j]?) ∧
      (∀ k, k ≠ g → (w.setCells g o vs).heap[k]? = w.heap[k]?) ∧ (∀ B w0, Below B w0 w → B ≤ g → Below B w0 (w.setCells g o vs))
  | [], o, w, c, h => ⟨c, h, rfl, fun j hj => by rw [if_neg (by simp)], fun k hk => rfl, fun B w0 hb hg => hb⟩
  | v :: r, o, w, c, h => by
    obtain ⟨c', h1, h2, h3, h4, h5⟩ := sets_spec g t r (o + 1) (w.setCell ⟨g, o, none⟩ v) _ (blk_set h o v)
    rw [Array.size_setIfInBounds] at h2 h3
    refine ⟨c', ?_, h2, fun j hj => ?_, fun k hk => ?_, fun B w0 hb hg => ?_⟩
    · rw [World.setCells]
      exact h1
    · rw [h3 j hj]
      by_cases ho : o = j
      · subst ho
        rw [if_neg (by omega), if_pos (by simp), Array.getElem?_setIfInBounds_self_of_lt hj]
        simp
      · by_cases hin : o + 1 ≤ j ∧ j < o + 1 + r.length
        · rw [if_pos hin, if_pos (by simp only [List.length_cons]; omega)]
          rw [show j - o = (j - (o + 1)) + 1 by omega, List.getElem?_cons_succ]
        · rw [if_neg hin, if_neg (by simp only [List.length_cons]; omega), Array.getElem?_setIfInBounds_ne ho]
    · rw [World.setCells, h4 k hk]
      exact Below.heap_setCell w ⟨g, o, none⟩ v k hk
    · rw [World.setCells]
      exact h5 B w0 (hb.setCell hg _) hg
theorem sets_all {g : Nat} {t : TypeId} {w : World} {c cs : Array Value} (h : w.heap[g]? = some (.cells c t (0, 0))) (hs : c.size = cs.size) :
    (w.setCells g 0 cs.toList).heap[g]? = some (.cells cs t (0, 0)) ∧ (∀ k, k ≠ g → (w.setCells g 0 cs.toList).heap[k]? = w.heap[k]?) ∧ (∀ B w0, Below B w0 w → B ≤ g → Below B w0 (w.setCells g 0 cs.toList)) := by
  obtain ⟨c', h1, h2, h3, h4, h5⟩ := sets_spec g t cs.toList 0 w c h
  refine ⟨?_, h4, h5⟩
  rw [h1]
  have : c' = cs := by
    apply Array.ext_getElem?
    intro j
    by_cases hj : j < c.size
    · rw [h3 j hj, if_pos (by simp; omega)]
      simp
    · rw [Array.getElem?_eq_none (by omega), Array.getElem?_eq_none (by omega)]
  rw [this]
/-- 'load t x; store t y (what was loaded)'. -/
theorem copy_event {P : Program} {ops : Array Oper} {rest : List Oper} {ol os : Oper} {a : Act} {Q : Exit → Act → World → Prop} {W : World} (hgl : ol.guard = none) {N : Tmp} (hdl : ol.dst = some N) (t : TypeId) (x y : Operand) (hol : ol.op = .load t x) (hgs : os.guard = none) (hds : os.dst = none) (hos : os.op = .store t y (.tmp N))
    (gx gy : Nat) (tx : TypeId) (c cs : Array Value) (hx : a.eval x = .pointer (some ⟨gx, 0, none⟩)) (hy : (a.put (some N) (.agg cs)).eval y = .pointer (some ⟨gy, 0, none⟩)) (hN : (a.put (some N) (.agg cs)).eval (.tmp N) = .agg cs)
    (hbx : W.heap[gx]? = some (.cells cs tx (0, 0))) (hby : W.heap[gy]? = some (.cells c t (0, 0))) (hsz : ∀ w, (Go.sizeOf t).run P w = .ok cs.size w) (hag : ∀ w, (isAgg t).run P w = .ok true w) (hi : (P.info? t).map (·.size) = some cs.size) (hc : c.size = cs.size) (h1 : cs.all (·.oneCell') = true)
    (h : ∀ w1, w1.heap[gy]? = some (.cells cs t (0, 0)) → (∀ k, k ≠ gy → w1.heap[k]? = W.heap[k]?) → (∀ B w0, Below B w0 W → B ≤ gy → Below B w0 w1) → wpList P ops Q rest (a.put (some N) (.agg cs)) w1) :
    wpList P ops Q (ol :: os :: rest) a W := by
  have hl := load_run (P := P) (o := ol) (a := a) (W := W) t x hol ⟨gx, 0, none⟩ hx cs.toList (by simpa using hsz) hag (fun j v hj => by rw [Addr.add_lit, Nat.zero_add, blk_cell hbx j]; simpa using hj)
  refine Kd.event_run hgl hl ?_
  rw [hdl]
  have hcs : (Value.agg cs.toList.toArray) = .agg cs := by simp
  rw [hcs]
  have ht : W.there gy 0 cs.size := fun j hj => by
    rw [Nat.zero_add]
    exact ⟨by rw [blk_cell hby j, Array.getElem?_eq_getElem (by omega)]; rfl, blk_frozen hby j⟩
  refine wpList_store_mid hgs t y (.tmp N) hos gy 0 cs hy hN ht hi h1 ?_
  rw [hds]
  obtain ⟨q1, q2, q3⟩ := sets_all hby hc
  exact h _ q1 q2 q3
theorem R_copy {α : Type} {d : Kd α} {e base : Nat} {ok : Nat → Prop} {W w1 : World} {v : Value} {xs : List α} (h : d.R e W base ok v xs) {g t : Nat} {c : Array Value} (hb : W.heap[g]? = some (.cells c t (0, 0))) (ht : ∀ q, q ∈ e :: d.E → q ≠ t) (hm : ∀ k, k ≠ g → w1.heap[k]? = W.heap[k]?) : d.R e w1 base ok v xs :=
  Kd.R_mono (Kd.R_step (Kd.R_types h hb ht) (fun k hk _ => hm k hk.2)) (fun _ hk => hk.1)
theorem info30 : (Tryd.prog.info? 30).map (fun i => (i.zero, i.size, i.bytes)) = some (some (.agg #[.string ByteArray.empty, .int .i64 0, .int .i64 0, .int .i64 0, .int .i64 0, .int .i64 0, .slice none 0 0, .slice none 0 0, .slice none 0 0, .slice none 0 0, .int .i64 0, .int .i64 0, .slice none 0 0, .int .i64 0, .slice none 0 0, .slice none 0 0, .slice none 0 0, .int .i64 0]), 18, 280) := by kernel_rfl
theorem make0_event {P : Program} {ops : Array Oper} {rest : List Oper} {o : Oper} {a : Act} {Q : Exit → Act → World → Prop} {W : World} {α : Type} (d : Kd α) (e : Nat) (hgd : o.guard = none) {N : Tmp} (hd : o.dst = some N) (t : TypeId) (x y : Operand) (ho : o.op = .makeSlice t x y) (n : Nat)
    (hx : a.eval x = .int .i64 0) (hy : a.eval y = .int .i64 n) (ht : P.underlying t = some (.slice e)) (z : Value) (bytes : Nat) (hinfo : (P.info? e).map (fun i => (i.zero, i.size, i.bytes)) = some (some z, d.sz, bytes)) (hz : z.cells.size = d.sz) (hl : n * bytes ≤ 281474976710656) (hn : n ≤ 9223372036854775807)
    (h : ∀ v1 w1, d.R e w1 W.heap.size (fun _ => True) v1 [] → Below W.heap.size W w1 → wpList P ops Q rest (a.put (some N) v1) w1) : wpList P ops Q (o :: rest) a W := by
  obtain ⟨i0, hi, hzz⟩ := Option.map_eq_some_iff.1 hinfo
  simp only [Prod.mk.injEq] at hzz
  obtain ⟨hz0, hz1, hz2⟩ := hzz
  have hr := run_make (P := P) W t e i0 z ht hi hz0 .i64 .i64 0 (n : Int) (by omega) (by omega)
    (by
      have h3 : ((i0.bytes * n : Nat) : Int) ≤ 281474976710656 := by rw [hz2, Nat.mul_comm]; omega
      rwa [Int.natCast_mul] at h3) (by omega)
  simp only [Int.toNat_natCast, Int.toNat_zero] at hr
  rw [hz1] at hr
  refine Kd.event_run hgd (w1 := W.alloc (.cells (madeCells z.cells (n * d.sz)) e)) (v := .slice (some ⟨W.heap.size, 0, none⟩) 0 n) ?_ ?_
  · simp [execOp, ho, hx, hy, hr]
  · rw [hd]
    refine h _ _ ⟨fun _ _ => trivial, [], ?_, Reps.none _ _⟩ ((Below.refl _ _).alloc (Nat.le_refl _) _)
    refine World.ownsRow_made W _ n (Nat.le_refl _) (by simpa [maxLen] using hn) ?_
    exact size_madeCells _ _
end Go.Proofs.YtoggkfapdomhgaaDoor.Pr
