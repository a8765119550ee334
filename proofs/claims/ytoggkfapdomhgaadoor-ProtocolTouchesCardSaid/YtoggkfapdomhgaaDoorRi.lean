/- slices.Insert and slices.Delete at one element of a row of ints; conditions: each theorem's own premises. -/
import Derived.Test.YtoggkfapdomhgaaDoorRr
import Derived.Test.YtoggkfapdomhgaaDoorSh3
import Derived.Test.YtoggkfapdomhgaaDoorShelf
namespace Go.Proofs.YtoggkfapdomhgaaDoor.Pr
open Go.RowKit Go.Proofs.YtoggkfapdomhgaaDoorW.PrintWords Go.Proofs.YtoggkfapdomhgaaDoorW.PrintLast Go.Proofs.YtoggkfapdomhgaaDoorW.PrintMore
set_option linter.unusedVariables false
set_option linter.unusedSimpArgs false
set_option maxRecDepth 100000
theorem R_ints {w : World} {base q n cap : Nat} {ys : List Int} {cur : Array Value} (hn : ys.length = n) (hb : base ≤ q) (hle : n ≤ cap) (hmx : cap ≤ maxLen) (hq : w.heap[q]? = some (.cells cur 3 (0, 0))) (hsz : cur.size = cap)
    (h : ∀ (j : Nat) (p : Int), ys[j]? = some p → cur[j]? = some (Value.int .i64 p)) : Kd.R (Kd.int .i64) 3 w base (fun _ => True) (.slice (some ⟨q, 0, none⟩) n cap) ys := by
  refine R_mk trivial hn hb hle hmx hq (by simpa [Kd.int, Kd.scalar] using hsz) fun j p hj => ⟨[.int .i64 p], rfl, rfl, fun t u hu => ?_⟩
  cases t with
  | zero =>
    have : Value.int .i64 p = u := by simpa using hu
    subst this
    simpa [Kd.int, Kd.scalar] using h j p hj
  | succ t => simp at hu
theorem int_cells {w : World} {base q n cap : Nat} {ok : Nat → Prop} {xs : List Int} (h : Kd.R (Kd.int .i64) 3 w base ok (.slice (some ⟨q, 0, none⟩) n cap) xs) : xs.length = n ∧ base ≤ q ∧ n ≤ cap ∧ cap ≤ maxLen ∧ ∃ cur, w.heap[q]? = some (.cells cur 3 (0, 0)) ∧ cur.size = cap ∧ ∀ (j : Nat) (p : Int), xs[j]? = some p → cur[j]? = some (Value.int .i64 p) := by
  obtain ⟨_, h1, h2, h3, h4, cur, h5, h6, h7⟩ := R_view h
  refine ⟨h1, h2, h3, h4, cur, h5, by simpa [Kd.int, Kd.scalar] using h6, fun j p hj => ?_⟩
  obtain ⟨c, _, hM, hg⟩ := h7 j p hj
  have hc : c = [.int .i64 p] := hM
  subst hc
  simpa [Kd.int, Kd.scalar] using hg 0 _ rfl
theorem ins_get (xs : List Int) (s : Int) (i : Nat) (hi : i ≤ xs.length) (j : Nat) (p : Int) (h : (xs.take i ++ s :: xs.drop i)[j]? = some p) : (j < i ∧ xs[j]? = some p) ∨ (j = i ∧ p = s) ∨ (i < j ∧ xs[j - 1]? = some p) := by
  have hl : (xs.take i).length = i := by rw [List.length_take]; omega
  rcases Nat.lt_trichotomy j i with hji | hji | hji
  · rw [List.getElem?_append_left (by omega), List.getElem?_take, if_pos hji] at h
    exact .inl ⟨hji, h⟩
  · rw [List.getElem?_append_right (by omega), hl, hji, Nat.sub_self, List.getElem?_cons_zero] at h
    exact .inr (.inl ⟨hji, (Option.some.inj h).symm⟩)
  · rw [List.getElem?_append_right (by omega), hl, show j - i = (j - 1 - i) + 1 by omega, List.getElem?_cons_succ, List.getElem?_drop, show i + (j - 1 - i) = j - 1 by omega] at h
    exact .inr (.inr ⟨hji, h⟩)
/-- What an insertion leaves. -/
def Inserted (w : World) (base q i n : Nat) (xs : List Int) (s : Int) (e : Ending) (w' : World) : Prop :=
  ∃ q' c', e = .returned (.slice (some ⟨q', 0, none⟩) (n + 1) c') ∧ Kd.R (Kd.int .i64) 3 w' base (fun _ => True) (.slice (some ⟨q', 0, none⟩) (n + 1) c') (xs.take i ++ s :: xs.drop i) ∧ (∀ k, k ≠ q → k < w.heap.size → w'.heap[k]? = w.heap[k]?) ∧ ∀ B w0, Below B w0 w → B ≤ q → Below B w0 w'
theorem insert_int {q n cap i vb base : Nat} {ok : Nat → Prop} (xs : List Int) (s : Int) (w : World) (hR : Kd.R (Kd.int .i64) 3 w base ok (.slice (some ⟨q, 0, none⟩) n cap) xs) (hi : i ≤ n) (hn0 : 0 < n) (hn : n ≤ 1000) (hbw : base ≤ w.heap.size) (hv : w.heap[vb]? = some (.cells #[.int .i64 s] 3 (0, 0))) (hvb : vb ≠ q) :
    Calls Tryd.prog 45 #[.slice (some ⟨q, 0, none⟩) n cap, .int .i64 i, .slice (some ⟨vb, 0, none⟩) 1 1] w (Inserted w base q i n xs s) := by
  obtain ⟨hl, hb, hle, hmx, cur, hh, hsz, hg⟩ := int_cells hR
  have hq := blk_lt hh
  have hcs : ∀ j v, (xs.map (Value.int .i64))[j]? = some v → w.cell? ⟨q, 0 + j, none⟩ = some v := by
    intro j v hj
    rw [List.getElem?_map, Option.map_eq_some_iff] at hj
    obtain ⟨p, hp, rfl⟩ := hj
    rw [Nat.zero_add, blk_cell hh]
    exact hg j p hp
  have hvs : ∀ j v, ([Value.int .i64 s] : List Value)[j]? = some v → w.cell? ⟨vb, 0 + j, none⟩ = some v := by
    intro j v hj
    rw [Nat.zero_add, blk_cell hv]
    simpa using hj
  have h1c : ∀ v ∈ xs.map (Value.int .i64), v.oneCell' = true := by
    intro v hv
    obtain ⟨x, _, rfl⟩ := List.mem_map.1 hv
    rfl
  have h1v : ∀ v ∈ ([Value.int .i64 s] : List Value), v.oneCell' = true := by
    intro v hv
    rw [List.mem_singleton.1 hv]
    rfl
  have hyl : (xs.take i ++ s :: xs.drop i).length = n + 1 := by simp; omega
  by_cases hin : i < n
  · by_cases hroom : n + 1 ≤ cap
    · refine (Any2.slices_Insert_int_shift Tryd.lays2n21 q 0 n cap i vb 0 1 1 (xs.map (Value.int .i64)) [.int .i64 s] w hin (by decide) hroom (by simpa [maxLen] using hmx) hvb (by simpa using hl) rfl hcs
        (fun j hj => by rw [Nat.zero_add, blk_cell hh, Array.getElem?_eq_getElem (by omega)]; rfl) (fun j hj => blk_frozen hh _) hvs h1c h1v 3 3 1 cap (by simp [World.shape?, hv]) (by simp [World.shape?, hh, hsz]) (by omega) (blk_frozen hv _) (blk_frozen hv _)).mono ?_
      rintro e w' ⟨rfl, rfl⟩
      obtain ⟨c1, a1, a2, a3, a4, a5⟩ := sets_spec q 3 ((xs.map (Value.int .i64)).drop i) (0 + (i + 1)) w.drew cur hh
      obtain ⟨c2, b1, b2, b3, b4, b5⟩ := sets_spec q 3 [.int .i64 s] (0 + i) _ c1 a1
      refine ⟨q, cap, rfl, R_ints hyl hb hroom hmx b1 (by omega) fun j p hj => ?_, fun k hk _ => (b4 k hk).trans (a4 k hk), fun B w0 hB hBq => b5 B w0 (a5 B w0 hB.drew hBq) hBq⟩
      have hjl := (List.getElem?_eq_some_iff.1 hj).1
      rw [hyl] at hjl
      rw [b3 j (by omega)]
      rcases ins_get xs s i (by omega) j p hj with ⟨h1, h2⟩ | ⟨h1, h2⟩ | ⟨h1, h2⟩
      · rw [if_neg (by simp; omega), a3 j (by omega), if_neg (by simp; omega)]
        exact hg j p h2
      · rw [if_pos (by simp; omega), h2]
        simp [h1]
      · have h3 := (List.getElem?_eq_some_iff.1 h2).1
        rw [if_neg (by simp; omega), a3 j (by omega), if_pos (by simp; omega), List.getElem?_drop, List.getElem?_map, show i + (j - (0 + (i + 1))) = j - 1 by omega, h2]
        rfl
    · refine (Any2.slices_Insert_int_grow Tryd.lays2n21 q 0 n cap i vb 0 1 1 (xs.map (Value.int .i64)) [.int .i64 s] w hin (by decide) hle (by omega) (by omega) (by simpa using hl) rfl hcs hvs h1c h1v).mono ?_
      rintro e w' ⟨rfl, rfl⟩
      have hG := grownCap_ge w (n + 1) cap (Tryd.lays2n21_ren.t 3)
      have hG2 := grownCap_le_maxLen w (n + 1) cap (Tryd.lays2n21_ren.t 3) (by simp [maxLen]; omega)
      generalize grownCap w (n + 1) cap (Tryd.lays2n21_ren.t 3) = G at hG hG2 ⊢
      obtain ⟨CC, hCC⟩ : ∃ CC, CC = (((xs.map (Value.int .i64)).take i).toArray ++ Builtin.zeroCells (Value.int .i64 0).cells (n + 1 - i) ++ Builtin.zeroCells (Value.int .i64 0).cells (G - (n + 1))) := ⟨_, rfl⟩
      rw [← hCC]
      have hz : (Value.int .i64 0).cells.size = 1 := rfl
      have hCs : CC.size = G := by
        rw [hCC]
        simp [Builtin.zeroCells, hz, hl]
        omega
      have hnew : (w.alloc (.cells CC 3)).drew.heap[w.heap.size]? = some (.cells CC 3 (0, 0)) := heap_alloc_new _ _
      obtain ⟨c1, a1, a2, a3, a4, a5⟩ := sets_spec w.heap.size 3 [.int .i64 s] i _ CC hnew
      obtain ⟨c2, b1, b2, b3, b4, b5⟩ := sets_spec w.heap.size 3 ((xs.map (Value.int .i64)).drop i) (i + 1) _ c1 (blk_drew a1)
      have hbl : Below w.heap.size w (((w.alloc (.cells CC 3)).drew.setCells w.heap.size i [.int .i64 s]).drew.setCells w.heap.size (i + 1) ((xs.map (Value.int .i64)).drop i)) :=
        b5 _ _ ((a5 _ _ ((Below.refl _ _).alloc (Nat.le_refl _) _).drew (Nat.le_refl _)).drew) (Nat.le_refl _)
      refine ⟨w.heap.size, G, rfl, R_ints hyl hbw hG hG2 b1 (by omega) fun j p hj => ?_, fun k hk hks => hbl.block k hks, fun B w0 hB hBq => hB.trans (hbl.mono (by omega))⟩
      have hjl := (List.getElem?_eq_some_iff.1 hj).1
      rw [hyl] at hjl
      rw [b3 j (by omega)]
      rcases ins_get xs s i (by omega) j p hj with ⟨h1, h2⟩ | ⟨h1, h2⟩ | ⟨h1, h2⟩
      · rw [if_neg (by simp; omega), a3 j (by omega), if_neg (by simp; omega), hCC, Array.append_assoc, Array.getElem?_append_left (by simp; omega)]
        simp [h1, h2]
      · rw [if_neg (by simp; omega), a3 j (by omega), if_pos (by simp; omega), h2]
        simp [h1]
      · have h3 := (List.getElem?_eq_some_iff.1 h2).1
        rw [if_pos (by simp; omega), List.getElem?_drop, List.getElem?_map, show i + (j - (i + 1)) = j - 1 by omega, h2]
        rfl
  · have hie : i = n := by omega
    subst hie
    have hdr : xs.drop i = [] := List.drop_eq_nil_of_le (by omega)
    have htk : xs.take i = xs := List.take_of_length_le (by omega)
    by_cases hroom : i + 1 ≤ cap
    · refine (Any2.slices_Insert_int_end_room Tryd.lays2n21 q 0 i cap vb 0 1 1 [.int .i64 s] w (by decide) hroom (by simpa [maxLen] using hmx) rfl
        (fun j hj => by rw [blk_cell hh, Array.getElem?_eq_getElem (by omega)]; rfl) (fun j hj => blk_frozen hh _) hvs h1v).mono ?_
      rintro e w' ⟨rfl, rfl⟩
      obtain ⟨c1, a1, a2, a3, a4, a5⟩ := sets_spec q 3 [.int .i64 s] (0 + i) w cur hh
      refine ⟨q, cap, rfl, R_ints hyl hb hroom hmx a1 (by omega) fun j p hj => ?_, fun k hk _ => a4 k hk, a5⟩
      have hjl := (List.getElem?_eq_some_iff.1 hj).1
      rw [hyl] at hjl
      rw [a3 j (by omega)]
      rcases ins_get xs s i (by omega) j p hj with ⟨h1, h2⟩ | ⟨h1, h2⟩ | ⟨h1, h2⟩
      · rw [if_neg (by simp; omega)]
        exact hg j p h2
      · rw [if_pos (by simp; omega), h2]
        simp [h1]
      · have h3 := (List.getElem?_eq_some_iff.1 h2).1
        omega
    · refine (Any2.slices_Insert_int_end_grow Tryd.lays2n21 (some ⟨q, 0, none⟩) i cap vb 0 1 1 (xs.map (Value.int .i64)) [.int .i64 s] w (by decide) hle (by omega) (by omega) (by simpa using hl) rfl (by intro h; cases h)
        (fun a ha j v hj => by obtain rfl := Option.some.inj ha; rw [Addr.add_lit]; exact hcs j v hj) hvs h1v).mono ?_
      rintro e w' ⟨rfl, rfl⟩
      have hG := grownCap_ge w (i + 1) cap (Tryd.lays2n21_ren.t 3)
      have hG2 := grownCap_le_maxLen w (i + 1) cap (Tryd.lays2n21_ren.t 3) (by simp [maxLen]; omega)
      generalize grownCap w (i + 1) cap (Tryd.lays2n21_ren.t 3) = G at hG hG2 ⊢
      obtain ⟨CC, hCC⟩ : ∃ CC, CC = (((xs.map (Value.int .i64)) ++ [Value.int .i64 s]).toArray ++ Builtin.zeroCells (Value.int .i64 0).cells (G - (i + 1))) := ⟨_, rfl⟩
      rw [← hCC]
      have hbl : Below w.heap.size w (w.drew.alloc (.cells CC 3)) := ((Below.refl _ _).drew).alloc (Nat.le_refl _) _
      have hnew : (w.drew.alloc (.cells CC 3)).heap[w.heap.size]? = some (.cells CC 3 (0, 0)) := heap_alloc_new _ _
      have hz : (Value.int .i64 0).cells.size = 1 := rfl
      refine ⟨w.heap.size, G, rfl, R_ints hyl hbw hG hG2 hnew (by rw [hCC]; simp [Builtin.zeroCells, hz, hl]; omega) fun j p hj => ?_, fun k hk hks => hbl.block k hks, fun B w0 hB hBq => hB.trans (hbl.mono (by omega))⟩
      rw [hdr, htk] at hj
      have hjl := (List.getElem?_eq_some_iff.1 hj).1
      rw [hCC, Array.getElem?_append_left (by simp at hjl ⊢; omega)]
      rw [List.getElem?_toArray]
      have := congrArg (Option.map (Value.int IntKind.i64)) hj
      rw [← List.getElem?_map] at this
      simpa using this
theorem delete_int {q n cap i base : Nat} {ok : Nat → Prop} (xs : List Int) (w : World) (hR : Kd.R (Kd.int .i64) 3 w base ok (.slice (some ⟨q, 0, none⟩) n cap) xs) (hi : i < n) (hn : n ≤ 1000) :
    Calls Tryd.prog 44 #[.slice (some ⟨q, 0, none⟩) n cap, .int .i64 i, .int .i64 ((i : Int) + 1)] w fun e w' => e = .returned (.slice (some ⟨q, 0, none⟩) (n - 1) cap) ∧ Kd.R (Kd.int .i64) 3 w' base (fun _ => True) (.slice (some ⟨q, 0, none⟩) (n - 1) cap) (xs.take i ++ xs.drop (i + 1)) ∧ (∀ k, k ≠ q → w'.heap[k]? = w.heap[k]?) ∧ ∀ B w0, Below B w0 w → B ≤ q → Below B w0 w' := by
  obtain ⟨hl, hb, hle, hmx, cur, hh, hsz, hg⟩ := int_cells hR
  subst hl
  have hH : Sort.Holds (Value.int .i64) w q 0 xs.toArray := by
    intro j hj
    have hj' : j < xs.length := by simpa using hj
    rw [Nat.zero_add, blk_cell hh]
    refine ⟨?_, blk_frozen hh _⟩
    rw [hg j xs[j] (List.getElem?_eq_getElem hj'), getElem!_pos xs.toArray j hj]
    rfl
  refine (Tryd.slices_Delete_int q 0 cap i (i + 1) xs w hH hle (by simpa [maxLen] using hmx) (by omega) (by omega)).mono ?_
  rintro e w' ⟨rfl, k, rfl⟩
  have hz : (xs.take i ++ xs.drop (i + 1) ++ List.replicate (i + 1 - i) 0).length = xs.length := by simp; omega
  have hP := Sort.holds_putRow (Value.int .i64) (Sort.ahead w k) q 0 xs.toArray (xs.take i ++ xs.drop (i + 1) ++ List.replicate (i + 1 - i) 0).toArray (Sort.holds_ahead _ w k q 0 _ hH) (by simpa using hz)
  obtain ⟨c', hc', hcs⟩ : ∃ c', (Sort.putRow (Value.int .i64) (Sort.ahead w k) q 0 (xs.take i ++ xs.drop (i + 1) ++ List.replicate (i + 1 - i) 0).toArray).heap[q]? = some (.cells c' 3 (0, 0)) ∧ c'.size = cap := by
    refine ⟨Sort.putCells (Value.int .i64) 0 (xs.take i ++ xs.drop (i + 1) ++ List.replicate (i + 1 - i) 0).toArray cur, ?_, ?_⟩
    · show (w.heap.modify q _)[q]? = _
      rw [Array.getElem?_modify, if_pos rfl, hh]
      rfl
    · rw [← hsz]
      simp [Sort.putCells]
  refine ⟨by rw [Nat.add_sub_cancel_left], R_ints (by simp; omega) hb (by omega) hmx hc' hcs fun j p hj => ?_, fun k' hk => ?_, fun B w0 hB hBq => ?_⟩
  · rw [← blk_cell hc' j]
    have hjl := (List.getElem?_eq_some_iff.1 hj).1
    have h1 := (hP j (by simp at hjl ⊢; omega)).1
    rw [Nat.zero_add] at h1
    rw [h1, getElem!_pos _ _ (by simp at hjl ⊢; omega)]
    have h2 : (xs.take i ++ xs.drop (i + 1) ++ List.replicate (i + 1 - i) 0)[j]? = some p := by rw [List.getElem?_append_left hjl]; exact hj
    have h3 := (List.getElem?_eq_some_iff.1 h2).2
    simp only [List.getElem_toArray]
    rw [h3]
  · show (w.heap.modify q _)[k']? = _
    rw [Array.getElem?_modify, if_neg (Ne.symm hk)]
  · refine ⟨hB.os, hB.tape, hB.output, by show _ ≤ (w.heap.modify q _).size; rw [Array.size_modify]; exact hB.size, fun k' hk => ?_⟩
    show (w.heap.modify q _)[k']? = _
    rw [Array.getElem?_modify, if_neg (by omega)]
    exact hB.block k' hk
theorem run_clear_rows {P : Program} (w : World) (t e ty : TypeId) (z : Value) (ht : P.underlying t = some (.slice e)) (hv : ∀ w, (zeroValue e).run P w = .ok z w) (b o c : Nat)
    (h1 : ∀ v ∈ z.cells.toList, v.oneCell' = true) (hc : ∀ j, j < z.cells.size → (w.cell? ⟨b, o + j, none⟩).isSome = true) (hf : ∀ j, j < z.cells.size → w.frozen? ⟨b, o + j, none⟩ = false) :
    (Builtin.clear_ #[t] ty #[.slice (some ⟨b, o, none⟩) 1 c]).run P w = .ok (.tuple #[]) (w.setCells b o z.cells.toList) := by
  have hzc : (Builtin.zeroCells z.cells 1).toList = z.cells.toList := by
    simp only [Builtin.zeroCells, Nat.one_mul]
    apply List.ext_getElem
    · simp
    · intro i h1 h2
      simp at h1 h2
      simp [Nat.mod_eq_of_lt h2, h2]
  have hst := run_storeCells_cells (P := P) b o z.cells.toList 0 w (by simpa using hc) (by simpa using hf) h1
  simp only [Nat.add_zero] at hst
  simp [Builtin.clear_, run_underlying ht, hv, hzc, hst]
end Go.Proofs.YtoggkfapdomhgaaDoor.Pr
