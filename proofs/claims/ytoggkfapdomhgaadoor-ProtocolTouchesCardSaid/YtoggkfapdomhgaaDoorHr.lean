/- The contract of FormatLinear at the one expression that known asks, and of known; conditions: what the library's variables hold. -/
import Derived.Test.YtoggkfapdomhgaaDoorHf
import Derived.Test.YtoggkfapdomhgaaDoorSh2
namespace Go.Proofs.YtoggkfapdomhgaaDoor.Pr
open Go.RowKit Go.Proofs.YtoggkfapdomhgaaDoorW.PrintWords Go.Proofs.YtoggkfapdomhgaaDoorW.PrintLast Go.Proofs.YtoggkfapdomhgaaDoorW.PrintMore
attribute [local go_sem] max2_int min2_int max_two min_two
set_option linter.unusedVariables false
set_option linter.unusedSimpArgs false
set_option maxRecDepth 100000
theorem len_f (B b : Nat) (l : List UInt8) (w : World) (h : Lib.IsBuilderF 65 5 B b (Lib.byteCells l) w) : Calls Tryd.prog 28 #[.pointer (some ⟨b, 0, none⟩)] w fun e w' => e = .returned (.int .i64 l.length) ∧ w' = w :=
  (Tryd.Builder_Len_f B b _ w h).mono fun e w' ⟨h1, h2⟩ => ⟨by rw [h1, Lib.byteCells_length], h2⟩
theorem ws_f (B b : Nat) (l : List UInt8) (s : ByteArray) (w : World) (h : Lib.IsBuilderF 65 5 B b (Lib.byteCells l) w) (hl : l.length + s.size ≤ 140737488355328) (hBw : B ≤ w.heap.size) :
    Calls Tryd.prog 29 #[.pointer (some ⟨b, 0, none⟩), .string s] w fun e w' => e = .returned (.tuple #[.int .i64 s.size, .nilIface]) ∧ Lib.IsBuilderF 65 5 B b (Lib.byteCells (l ++ s.data.toList)) w' ∧ Below B w w' ∧ Lib.OthersKept 5 (some b) w w' :=
  (Tryd.Builder_WriteString_k B b _ s w h (by rw [Lib.byteCells_length]; exact hl) hBw).mono fun e w' ⟨h1, h2, h3⟩ => ⟨h1, Or.inr (by rw [show Lib.byteCells (l ++ s.data.toList) = Lib.byteCells l ++ Lib.strCells s by simp [Lib.byteCells, Lib.strCells]]; exact h2), h3⟩
theorem wb_f (B b : Nat) (l : List UInt8) (c : UInt8) (w : World) (h : Lib.IsBuilderF 65 5 B b (Lib.byteCells l) w) (hl : l.length + 1 ≤ 140737488355328) (hBw : B ≤ w.heap.size) :
    Calls Tryd.prog 27 #[.pointer (some ⟨b, 0, none⟩), .int .u8 c.toNat] w fun e w' => e = .returned .nilIface ∧ Lib.IsBuilderF 65 5 B b (Lib.byteCells (l ++ [c])) w' ∧ Below B w w' ∧ Lib.OthersKept 5 (some b) w w' :=
  (Tryd.Builder_WriteByte_k B b _ (c.toNat : Int) w h (by rw [Lib.byteCells_length]; exact hl) hBw).mono fun e w' ⟨h1, h2, h3⟩ => ⟨h1, Or.inr (by rw [show Lib.byteCells (l ++ [c]) = Lib.byteCells l ++ [.int .u8 c.toNat] by simp [Lib.byteCells]]; exact h2), h3⟩
theorem builder_new (w : World) : Lib.IsBuilderF 65 5 w.heap.size w.heap.size (Lib.byteCells []) (w.alloc (Obj.cells #[.pointer none, .slice none 0 0] 65)) :=
  Lib.IsBuilderF.of (Or.inl ⟨Nat.le_refl _, .slice none 0 0, heap_alloc_new _ _, own_nil _ _ _ _, by simp [Value.ownBlock]⟩)
theorem itoa3 (w : World) : Calls Tryd.prog 30 #[.int .i64 3] w fun e w' => e = .returned (.string ⟨#[51]⟩) ∧ w' = w := by
  have h := Tryd.strconv_Itoa_small 3 (by decide) w
  rw [show Lib.decDigits 3 = [51] by decide +kernel] at h
  exact h
theorem itoa1 (w : World) : Calls Tryd.prog 30 #[.int .i64 1] w fun e w' => e = .returned (.string ⟨#[49]⟩) ∧ w' = w := by
  have h := Tryd.strconv_Itoa_small 1 (by decide) w
  rw [show Lib.decDigits 1 = [49] by decide +kernel] at h
  exact h
/-- The text after so many rounds. -/
def fmtT : Nat → List UInt8
  | 0 => []
  | 1 => [110]
  | 2 => [110, 45, 51, 42, 116]
  | 3 => [110, 45, 51, 42, 116]
  | _ => [110, 45, 51, 42, 116, 45, 49]
def fmtL.T13 : Bool × List (List Nat × List Nat) := (true, [([], []), ([0], [0]), ([1], [1]), ([], []), ([3], [3]), ([2, 4], [2, 4]), ([5, 1], [5])])
def fmtL.B13 : List Nat := [0, 1, 3, 0, 8, 31, 63]
theorem fmtL.tab13 : rtab .any (opsOf Tryd.f12 13) = fmtL.T13 := by kernel_rfl
theorem fmtL.bits13 : waitsOk fmtL.T13.2 fmtL.B13 = true := by kernel_rfl
set_option maxHeartbeats 4000000 in
theorem fmt_known (w : World) : Calls Tryd.prog 12 #[.agg #[.int .i64 (-1), .int .i64 1, .int .i64 (-3), .int .i64 0]] w fun e w' => e = .returned (.string ⟨#[110, 45, 51, 42, 116, 45, 49]⟩) ∧ Below w.heap.size w w' := by
  have hbn : bndE ⟨-1, 1, -3, 0⟩ = true := by decide
  go_enter Tryd.func12, Tryd.ntmps12
  go_wp2_with fail
  refine (bnd_b ⟨-1, 1, -3, 0⟩ _).mono ?_
  rintro e w1 ⟨rfl, hB⟩
  rw [hbn]
  have HB1 := Aside0.mk (((Below.refl w.heap.size w).alloc (Nat.le_refl _) _).trans (hB.mono (by simp)))
  have hx : ∀ k v, (#[Value.int IntKind.i64 (-1), .int .i64 1, .int .i64 (-3), .int .i64 0] : Array Value)[k]? = some v → w1.cell? ⟨w.heap.size, k, none⟩ = some v := fun k v hk => (blk_cell (blk_below (heap_alloc_new w (.cells #[.int .i64 (-1), .int .i64 1, .int .i64 (-3), .int .i64 0] 48)) hB) k).trans hk
  have x0 := hx 0 _ rfl
  have x1 := hx 1 _ rfl
  have x2 := hx 2 _ rfl
  have x3 := hx 3 _ rfl
  have hgx : w.heap.size < w1.heap.size := by have := hB.size; simp at this; omega
  clear hx hB hbn
  go_wp2_with fail
  obtain ⟨w2, hw2⟩ : ∃ w2, w2 = (w1.alloc (.cells #[.pointer none, .slice none 0 0] 65)).alloc (.cells #[.int .i64 1, .string ⟨#[110]⟩, .int .i64 (-3), .string ⟨#[116]⟩, .int .i64 0, .string ⟨#[102]⟩, .int .i64 (-1), .string ⟨#[]⟩] 66) := ⟨_, rfl⟩
  rw [← hw2]
  have HI0 : Aside0 (Lib.IsBuilderF 65 5 w1.heap.size w1.heap.size (Lib.byteCells (fmtT 0)) w2) := ⟨by rw [hw2]; exact (builder_new w1).alloc _⟩
  have BS0 : Aside0 (w2.heap[w1.heap.size + 1]? = some (.cells #[.int .i64 1, .string ⟨#[110]⟩, .int .i64 (-3), .string ⟨#[116]⟩, .int .i64 0, .string ⟨#[102]⟩, .int .i64 (-1), .string ⟨#[]⟩] 66 (0, 0))) := ⟨by rw [hw2, show w1.heap.size + 1 = (w1.alloc (.cells #[.pointer none, .slice none 0 0] 65)).heap.size by simp]; exact heap_alloc_new _ _⟩
  have HB2 : Aside0 (Below w1.heap.size w1 w2) := ⟨by rw [hw2]; exact ((Below.refl _ _).alloc (Nat.le_refl _) _).alloc (by simp) _⟩
  clear hw2 x0 x1 x2 x3
  go_loopw [24] (fun v24 W => ∃ i : Nat, i ≤ 4 ∧ v24 = .int .i64 i ∧ Aside0 (Lib.IsBuilderF 65 5 w1.heap.size w1.heap.size (Lib.byteCells (fmtT i)) W) ∧ Aside0 (W.heap[w1.heap.size + 1]? = some (.cells #[.int .i64 1, .string ⟨#[110]⟩, .int .i64 (-3), .string ⟨#[116]⟩, .int .i64 0, .string ⟨#[102]⟩, .int .i64 (-1), .string ⟨#[]⟩] 66 (0, 0))) ∧ Aside0 (Below w1.heap.size w1 W)) (fun v24 _ => 4 - (intOf v24).toNat)
  case atStart => exact ⟨0, by omega, rfl, HI0, BS0, HB2⟩
  case round =>
    obtain ⟨i, hi, rfl, HI, BS, HB⟩ := hrel
    clear HI0 BS0 HB2
    have hsz := HB.out.size
    have key : ∀ W W' : World, Lib.OthersKept 5 (some w1.heap.size) W W' → ∀ k cs, k ≠ w1.heap.size → W.heap[k]? = some (.cells cs 66 (0, 0)) → W'.heap[k]? = some (.cells cs 66 (0, 0)) := fun W W' hO k cs hk h => hO k _ h (fun e => hk (Option.some.inj e)) (fun c fz e => by injection e with _ h2 _; exact absurd h2 (by decide))
    have KEY := Aside0.mk key
    clear key
    match i, hi with
    | 0, _ =>
      have s0 : wr.cell? ⟨w1.heap.size + 1, 0, none⟩ = some (.int .i64 1) := (blk_cell BS.out 0).trans rfl
      have s1 : wr.cell? ⟨w1.heap.size + 1, 1, none⟩ = some (.string ⟨#[110]⟩) := (blk_cell BS.out 1).trans rfl
      go_upto_region 7 with (fail)
      obtain ⟨g5, hg5⟩ : ∃ g, g = wr.heap.size := ⟨_, rfl⟩
      obtain ⟨w3, hw3⟩ : ∃ w3, w3 = wr.alloc (.cells #[.int .i64 1, .string ⟨#[110]⟩] 66) := ⟨_, rfl⟩
      rw [← hw3]
      have BG : Aside0 (w3.heap[g5]? = some (.cells #[.int .i64 1, .string ⟨#[110]⟩] 66 (0, 0))) := ⟨by rw [hw3, hg5]; exact heap_alloc_new _ _⟩
      have BS3 : Aside0 (w3.heap[w1.heap.size + 1]? = some (.cells #[.int .i64 1, .string ⟨#[110]⟩, .int .i64 (-3), .string ⟨#[116]⟩, .int .i64 0, .string ⟨#[102]⟩, .int .i64 (-1), .string ⟨#[]⟩] 66 (0, 0))) := ⟨by rw [hw3]; exact blk_alloc BS.out _⟩
      have HI3 : Aside0 (Lib.IsBuilderF 65 5 w1.heap.size w1.heap.size (Lib.byteCells (fmtT 0)) w3) := ⟨by rw [hw3]; exact HI.out.alloc _⟩
      have HB3 : Aside0 (Below w1.heap.size w1 w3) := ⟨by rw [hw3]; exact HB.out.alloc hsz _⟩
      have hlt5 : w1.heap.size < g5 := by have := blk_lt BS.out; omega
      have hg5n : g5 ≠ w1.heap.size := by omega
      try simp only [← hg5]
      clear hw3 hg5 s0 s1 HI BS HB
      have c0 : w3.cell? ⟨g5, 0, none⟩ = some (.int .i64 1) := (blk_cell BG.out 0).trans rfl
      have c1 : w3.cell? ⟨g5, 1, none⟩ = some (.string ⟨#[110]⟩) := (blk_cell BG.out 1).trans rfl
      go_wp2_with fail
      refine (len_f w1.heap.size w1.heap.size (fmtT 0) _ HI3.out).mono ?_
      rintro e w' ⟨rfl, rfl⟩
      go_wp2_with fail
      refine (ws_f w1.heap.size w1.heap.size (fmtT 0) ⟨#[110]⟩ _ HI3.out (by decide) HB3.out.size).mono ?_
      rintro e w4 ⟨rfl, hI, hB, hO⟩
      have n_I := Aside0.mk hI
      have n_S := Aside0.mk (KEY.out _ _ hO (w1.heap.size + 1) _ (by omega) BS3.out)
      have n_G := Aside0.mk (KEY.out _ _ hO g5 _ hg5n BG.out)
      have n_B := Aside0.mk (HB3.out.trans hB)
      clear hI hB hO HI3 BS3 BG HB3 c0 c1
      have HI3 := n_I
      have BS3 := n_S
      have BG := n_G
      have HB3 := n_B
      clear n_I n_S n_G n_B
      go_wp2_with fail
      go_roundw
      case rel => exact ⟨1, by omega, by go_num, HI3, BS3, HB3⟩
      case measure => simp [intOf]
    | 1, _ =>
      have s0 : wr.cell? ⟨w1.heap.size + 1, 2, none⟩ = some (.int .i64 (-3)) := (blk_cell BS.out 2).trans rfl
      have s1 : wr.cell? ⟨w1.heap.size + 1, 3, none⟩ = some (.string ⟨#[116]⟩) := (blk_cell BS.out 3).trans rfl
      go_upto_region 7 with (fail)
      obtain ⟨g5, hg5⟩ : ∃ g, g = wr.heap.size := ⟨_, rfl⟩
      obtain ⟨w3, hw3⟩ : ∃ w3, w3 = wr.alloc (.cells #[.int .i64 (-3), .string ⟨#[116]⟩] 66) := ⟨_, rfl⟩
      rw [← hw3]
      have BG : Aside0 (w3.heap[g5]? = some (.cells #[.int .i64 (-3), .string ⟨#[116]⟩] 66 (0, 0))) := ⟨by rw [hw3, hg5]; exact heap_alloc_new _ _⟩
      have BS3 : Aside0 (w3.heap[w1.heap.size + 1]? = some (.cells #[.int .i64 1, .string ⟨#[110]⟩, .int .i64 (-3), .string ⟨#[116]⟩, .int .i64 0, .string ⟨#[102]⟩, .int .i64 (-1), .string ⟨#[]⟩] 66 (0, 0))) := ⟨by rw [hw3]; exact blk_alloc BS.out _⟩
      have HI3 : Aside0 (Lib.IsBuilderF 65 5 w1.heap.size w1.heap.size (Lib.byteCells (fmtT 1)) w3) := ⟨by rw [hw3]; exact HI.out.alloc _⟩
      have HB3 : Aside0 (Below w1.heap.size w1 w3) := ⟨by rw [hw3]; exact HB.out.alloc hsz _⟩
      have hlt5 : w1.heap.size < g5 := by have := blk_lt BS.out; omega
      have hg5n : g5 ≠ w1.heap.size := by omega
      try simp only [← hg5]
      clear hw3 hg5 s0 s1 HI BS HB
      have c0 : w3.cell? ⟨g5, 0, none⟩ = some (.int .i64 (-3)) := (blk_cell BG.out 0).trans rfl
      have c1 : w3.cell? ⟨g5, 1, none⟩ = some (.string ⟨#[116]⟩) := (blk_cell BG.out 1).trans rfl
      go_wp2_with fail
      refine (wb_f w1.heap.size w1.heap.size (fmtT 1) 45 _ HI3.out (by decide) HB3.out.size).mono ?_
      rintro e w4 ⟨rfl, hI, hB, hO⟩
      have n_I := Aside0.mk hI
      have n_S := Aside0.mk (KEY.out _ _ hO (w1.heap.size + 1) _ (by omega) BS3.out)
      have n_G := Aside0.mk (KEY.out _ _ hO g5 _ hg5n BG.out)
      have n_B := Aside0.mk (HB3.out.trans hB)
      clear hI hB hO HI3 BS3 BG HB3 c0 c1
      have HI3 := n_I
      have BS3 := n_S
      have BG := n_G
      have HB3 := n_B
      clear n_I n_S n_G n_B
      have c0 : w4.cell? ⟨g5, 0, none⟩ = some (.int .i64 (-3)) := (blk_cell BG.out 0).trans rfl
      have c1 : w4.cell? ⟨g5, 1, none⟩ = some (.string ⟨#[116]⟩) := (blk_cell BG.out 1).trans rfl
      go_upto_region 13 with (fail)
      clear c0 c1
      have n_I : Aside0 (Lib.IsBuilderF 65 5 w1.heap.size w1.heap.size (Lib.byteCells (fmtT 1 ++ [45])) w4.drew) := ⟨HI3.out.imp (fun h => h.drew) (fun h => h.drew)⟩
      have n_S : Aside0 (w4.drew.heap[w1.heap.size + 1]? = some (.cells #[.int .i64 1, .string ⟨#[110]⟩, .int .i64 (-3), .string ⟨#[116]⟩, .int .i64 0, .string ⟨#[102]⟩, .int .i64 (-1), .string ⟨#[]⟩] 66 (0, 0))) := ⟨BS3.out⟩
      have n_G : Aside0 (w4.drew.heap[g5]? = some (.cells #[.int .i64 (-3), .string ⟨#[116]⟩] 66 (0, 0))) := ⟨BG.out⟩
      have n_B := Aside0.mk (below_drew1 HB3.out)
      clear HI3 BS3 BG HB3
      have HI3 := n_I
      have BS3 := n_S
      have BG := n_G
      have HB3 := n_B
      clear n_I n_S n_G n_B
      refine start_ (n := 7) (S := fun w' => w'.cell? ⟨g5, 1, none⟩ = some (.string ⟨#[116]⟩)) (ds := []) #[false, false, false, false, false, false, false] (by kernel_rfl) rfl rfl ((blk_cell BG.out 1).trans rfl) (fun hHeld => ?_)
      refine with_tabW fmtL.tab13 fmtL.bits13 (fun HT_ HW_ => ?_)
      refine pure_ (i := 0) (N := some 44) (v := ?_) (a' := ?_) #[true, false, false, false, false, false, false] rfl rfl (any_of HT_.out (by kernel_rfl)) (fun _ _ _ h => h) (Or.inl ⟨by rfl, ?_⟩) ?_ ?_
      rotate_left
      · intro w'
        go_simp
        with_reducible rfl
      rotate_left
      · simp only [Act.put, List.setIfInBounds_toArray, List.set_cons_zero, List.set_cons_succ, i64_w, i32_w]
        rfl
      refine pure_ (i := 3) (N := some 47) (v := ?_) (a' := ?_) #[true, false, false, true, false, false, false] rfl rfl (any_of HT_.out (by kernel_rfl)) (fun _ _ _ h => h) (Or.inl ⟨by rfl, ?_⟩) ?_ ?_
      rotate_left
      · intro w'
        go_simp
        with_reducible rfl
      rotate_left
      · simp only [Act.put, List.setIfInBounds_toArray, List.set_cons_zero, List.set_cons_succ, i64_w, i32_w]
        rfl
      refine take_ (i := 4) (N := some 48) (v := ?_) (a' := ?_) #[true, false, false, true, true, false, false] rfl rfl (take_ofW HT_.out HW_.out (by kernel_rfl)) (fun _ _ _ h => h) (Or.inl ⟨by rfl, ?_⟩) hHeld ?_ ?_
      rotate_left
      · intro w' s0
        go_simp
        with_reducible rfl
      rotate_left
      · simp only [Act.put, List.setIfInBounds_toArray, List.set_cons_zero, List.set_cons_succ, i64_w, i32_w]
        rfl
      refine one_ (i := 1) (N := some 45) #[true, true, false, true, true, false, false] rfl rfl (one_of HT_.out (by kernel_rfl)) (by decide) (fun K hK => ?_)
      refine goes_ Tryd.func30 (by kernel_rfl) rfl #[.int .i64 3] (by rfl) rfl rfl (by first | rfl | (simp only [List.map_toArray, List.map_cons, List.map_nil]; rfl)) ?_
      refine (itoa3 _).mono ?_
      rintro e w' ⟨rfl, rfl⟩
      refine ⟨_, rfl, ?_⟩
      refine hK.out _ _ ((blk_cell BG.out 1).trans rfl) (fun hHeld => ?_)
      clear hK K
      refine norm_ (a' := ?_) ?_ ?_
      rotate_left
      · show Act.put _ (some 45) _ = _
        simp only [Act.put, List.setIfInBounds_toArray, List.set_cons_zero, List.set_cons_succ, i64_w, i32_w]
        rfl
      refine pure_ (i := 2) (N := some 46) (v := ?_) (a' := ?_) #[true, true, true, true, true, false, false] rfl rfl (any_of HT_.out (by kernel_rfl)) (fun _ _ _ h => h) (Or.inl ⟨by rfl, ?_⟩) ?_ ?_
      rotate_left
      · intro w'
        go_simp
        with_reducible rfl
      rotate_left
      · simp only [Act.put, List.setIfInBounds_toArray, List.set_cons_zero, List.set_cons_succ, i64_w, i32_w]
        rfl
      refine pure_ (i := 5) (N := some 49) (v := ?_) (a' := ?_) #[true, true, true, true, true, true, false] rfl rfl (any_of HT_.out (by kernel_rfl)) (fun _ _ _ h => h) (Or.inl ⟨by rfl, ?_⟩) ?_ ?_
      rotate_left
      · intro w'
        go_simp
        with_reducible rfl
      rotate_left
      · simp only [Act.put, List.setIfInBounds_toArray, List.set_cons_zero, List.set_cons_succ, i64_w, i32_w]
        rfl
      refine one_ (i := 6) (N := some 50) #[true, true, true, true, true, true, true] rfl rfl (one_of HT_.out (by kernel_rfl)) (by decide) (fun K hK => ?_)
      refine goes_ Tryd.func29 (by kernel_rfl) rfl #[.pointer (some ⟨w1.heap.size, 0, none⟩), .string _] (by rfl) rfl rfl (by first | rfl | (simp only [List.map_toArray, List.map_cons, List.map_nil]; rfl)) ?_
      refine (ws_f w1.heap.size w1.heap.size (fmtT 1 ++ [45]) _ _ HI3.out (by decide) HB3.out.size).mono ?_
      rintro e w5 ⟨rfl, hI, hB, hO⟩
      refine ⟨_, rfl, ?_⟩
      have n_I := Aside0.mk hI
      have n_S := Aside0.mk (KEY.out _ _ hO (w1.heap.size + 1) _ (by omega) BS3.out)
      have n_G := Aside0.mk (KEY.out _ _ hO g5 _ hg5n BG.out)
      have n_B := Aside0.mk (HB3.out.trans hB)
      clear hI hB hO HI3 BS3 BG HB3
      have HI3 := n_I
      have BS3 := n_S
      have BG := n_G
      have HB3 := n_B
      clear n_I n_S n_G n_B
      refine hK.out _ _ ((blk_cell BG.out 1).trans rfl) (fun hHeld => ?_)
      clear hK K
      refine norm_ (a' := ?_) ?_ ?_
      rotate_left
      · show Act.put _ (some 50) _ = _
        simp only [Act.put, List.setIfInBounds_toArray, List.set_cons_zero, List.set_cons_succ, i64_w, i32_w]
        rfl
      refine done_ (done_of HT_.out (by kernel_rfl)) ?_
      have hT : Lib.byteCells (fmtT 1 ++ [45] ++ (⟨#[51]⟩ ++ ⟨#[42]⟩ ++ ⟨#[116]⟩ : ByteArray).data.toList) = Lib.byteCells (fmtT 2) := congrArg Lib.byteCells (by decide +kernel)
      rw [hT] at HI3
      go_wp2_with fail
      go_roundw
      case rel => exact ⟨2, by omega, by go_num, HI3, BS3, HB3⟩
      case measure => simp [intOf]
    | 2, _ =>
      have s0 : wr.cell? ⟨w1.heap.size + 1, 4, none⟩ = some (.int .i64 0) := (blk_cell BS.out 4).trans rfl
      have s1 : wr.cell? ⟨w1.heap.size + 1, 5, none⟩ = some (.string ⟨#[102]⟩) := (blk_cell BS.out 5).trans rfl
      go_upto_region 7 with (fail)
      obtain ⟨g5, hg5⟩ : ∃ g, g = wr.heap.size := ⟨_, rfl⟩
      obtain ⟨w3, hw3⟩ : ∃ w3, w3 = wr.alloc (.cells #[.int .i64 0, .string ⟨#[102]⟩] 66) := ⟨_, rfl⟩
      rw [← hw3]
      have BG : Aside0 (w3.heap[g5]? = some (.cells #[.int .i64 0, .string ⟨#[102]⟩] 66 (0, 0))) := ⟨by rw [hw3, hg5]; exact heap_alloc_new _ _⟩
      have BS3 : Aside0 (w3.heap[w1.heap.size + 1]? = some (.cells #[.int .i64 1, .string ⟨#[110]⟩, .int .i64 (-3), .string ⟨#[116]⟩, .int .i64 0, .string ⟨#[102]⟩, .int .i64 (-1), .string ⟨#[]⟩] 66 (0, 0))) := ⟨by rw [hw3]; exact blk_alloc BS.out _⟩
      have HI3 : Aside0 (Lib.IsBuilderF 65 5 w1.heap.size w1.heap.size (Lib.byteCells (fmtT 2)) w3) := ⟨by rw [hw3]; exact HI.out.alloc _⟩
      have HB3 : Aside0 (Below w1.heap.size w1 w3) := ⟨by rw [hw3]; exact HB.out.alloc hsz _⟩
      have hlt5 : w1.heap.size < g5 := by have := blk_lt BS.out; omega
      have hg5n : g5 ≠ w1.heap.size := by omega
      try simp only [← hg5]
      clear hw3 hg5 s0 s1 HI BS HB
      have c0 : w3.cell? ⟨g5, 0, none⟩ = some (.int .i64 0) := (blk_cell BG.out 0).trans rfl
      have c1 : w3.cell? ⟨g5, 1, none⟩ = some (.string ⟨#[102]⟩) := (blk_cell BG.out 1).trans rfl
      go_wp2_with fail
      go_roundw
      case rel => exact ⟨3, by omega, by go_num, HI3, BS3, HB3⟩
      case measure => simp [intOf]
    | 3, _ =>
      have s0 : wr.cell? ⟨w1.heap.size + 1, 6, none⟩ = some (.int .i64 (-1)) := (blk_cell BS.out 6).trans rfl
      have s1 : wr.cell? ⟨w1.heap.size + 1, 7, none⟩ = some (.string ⟨#[]⟩) := (blk_cell BS.out 7).trans rfl
      go_upto_region 7 with (fail)
      obtain ⟨g5, hg5⟩ : ∃ g, g = wr.heap.size := ⟨_, rfl⟩
      obtain ⟨w3, hw3⟩ : ∃ w3, w3 = wr.alloc (.cells #[.int .i64 (-1), .string ⟨#[]⟩] 66) := ⟨_, rfl⟩
      rw [← hw3]
      have BG : Aside0 (w3.heap[g5]? = some (.cells #[.int .i64 (-1), .string ⟨#[]⟩] 66 (0, 0))) := ⟨by rw [hw3, hg5]; exact heap_alloc_new _ _⟩
      have BS3 : Aside0 (w3.heap[w1.heap.size + 1]? = some (.cells #[.int .i64 1, .string ⟨#[110]⟩, .int .i64 (-3), .string ⟨#[116]⟩, .int .i64 0, .string ⟨#[102]⟩, .int .i64 (-1), .string ⟨#[]⟩] 66 (0, 0))) := ⟨by rw [hw3]; exact blk_alloc BS.out _⟩
      have HI3 : Aside0 (Lib.IsBuilderF 65 5 w1.heap.size w1.heap.size (Lib.byteCells (fmtT 3)) w3) := ⟨by rw [hw3]; exact HI.out.alloc _⟩
      have HB3 : Aside0 (Below w1.heap.size w1 w3) := ⟨by rw [hw3]; exact HB.out.alloc hsz _⟩
      have hlt5 : w1.heap.size < g5 := by have := blk_lt BS.out; omega
      have hg5n : g5 ≠ w1.heap.size := by omega
      try simp only [← hg5]
      clear hw3 hg5 s0 s1 HI BS HB
      have c0 : w3.cell? ⟨g5, 0, none⟩ = some (.int .i64 (-1)) := (blk_cell BG.out 0).trans rfl
      have c1 : w3.cell? ⟨g5, 1, none⟩ = some (.string ⟨#[]⟩) := (blk_cell BG.out 1).trans rfl
      go_wp2_with fail
      refine (wb_f w1.heap.size w1.heap.size (fmtT 3) 45 _ HI3.out (by decide) HB3.out.size).mono ?_
      rintro e w4 ⟨rfl, hI, hB, hO⟩
      have n_I := Aside0.mk hI
      have n_S := Aside0.mk (KEY.out _ _ hO (w1.heap.size + 1) _ (by omega) BS3.out)
      have n_G := Aside0.mk (KEY.out _ _ hO g5 _ hg5n BG.out)
      have n_B := Aside0.mk (HB3.out.trans hB)
      clear hI hB hO HI3 BS3 BG HB3 c0 c1
      have HI3 := n_I
      have BS3 := n_S
      have BG := n_G
      have HB3 := n_B
      clear n_I n_S n_G n_B
      have c0 : w4.cell? ⟨g5, 0, none⟩ = some (.int .i64 (-1)) := (blk_cell BG.out 0).trans rfl
      have c1 : w4.cell? ⟨g5, 1, none⟩ = some (.string ⟨#[]⟩) := (blk_cell BG.out 1).trans rfl
      go_wp2_with fail
      refine (itoa1 _).mono ?_
      rintro e w' ⟨rfl, rfl⟩
      go_wp2_with fail
      refine (ws_f w1.heap.size w1.heap.size (fmtT 3 ++ [45]) _ _ HI3.out (by decide) HB3.out.size).mono ?_
      rintro e w5 ⟨rfl, hI, hB, hO⟩
      have n_I := Aside0.mk hI
      have n_S := Aside0.mk (KEY.out _ _ hO (w1.heap.size + 1) _ (by omega) BS3.out)
      have n_G := Aside0.mk (KEY.out _ _ hO g5 _ hg5n BG.out)
      have n_B := Aside0.mk (HB3.out.trans hB)
      clear hI hB hO HI3 BS3 BG HB3 c0 c1
      have HI3 := n_I
      have BS3 := n_S
      have BG := n_G
      have HB3 := n_B
      clear n_I n_S n_G n_B
      have hT : Lib.byteCells (fmtT 3 ++ [45] ++ (⟨#[49]⟩ : ByteArray).data.toList) = Lib.byteCells (fmtT 4) := congrArg Lib.byteCells (by decide +kernel)
      rw [hT] at HI3
      go_wp2_with fail
      go_roundw
      case rel => exact ⟨4, by omega, by go_num, HI3, BS3, HB3⟩
      case measure => simp [intOf]
    | 4, _ =>
      go_wp2_with fail
      refine (len_f w1.heap.size w1.heap.size (fmtT 4) _ HI.out).mono ?_
      rintro e w' ⟨rfl, rfl⟩
      go_wp2_with fail
      refine (Tryd.Builder_String_k w1.heap.size w1.heap.size (fmtT 4) _ HI.out (by simp [fmtT])).mono ?_
      rintro e w5 ⟨rfl, _, hB, _⟩
      have HB5 := Aside0.mk (HB1.out.trans ((HB.out.trans hB).mono HB1.out.size))
      clear hB
      go_wp2_with fail
      go_ret
      exact ⟨rfl, HB5.out⟩
set_option maxHeartbeats 1000000 in
theorem known_any (w : World) (hG : Glob w) : Calls Tryd.prog 7 #[] w fun e w' => e = .returned (.bool true) ∧ Below w.heap.size w w' := by
  have HG := Aside0.mk hG
  clear hG
  have v1 : validB ⟨#[118, 48]⟩ = true := by decide +kernel
  have v2 : validB ⟨#[108, 105, 110, 101]⟩ = false := by decide +kernel
  have v3 : validB ⟨#[]⟩ = false := by decide +kernel
  have V1 := Aside0.mk v1
  have V2 := Aside0.mk v2
  have V3 := Aside0.mk v3
  clear v1 v2 v3
  go_enter Tryd.func7, Tryd.ntmps7
  go_wp2_with fail
  refine (fmt_known w).mono ?_
  rintro e w1 ⟨rfl, hB⟩
  have HB1 := Aside0.mk hB
  have HG1 := Aside0.mk (Glob_below HG.out hB)
  clear hB
  go_wp2_with fail
  refine (protocol_ValidName.calls ⟨#[118, 48]⟩ true w1 HG1.out (by unfold protocol_ValidName.f; rw [V1.out])).mono ?_
  rintro e w2 ⟨rfl, hB⟩
  have HB2 := Aside0.mk (HB1.out.trans (hB.mono HB1.out.size))
  have HG2 := Aside0.mk (Glob_below HG1.out hB)
  clear hB
  go_wp2_with fail
  refine (protocol_ValidName.calls ⟨#[108, 105, 110, 101]⟩ false w2 HG2.out (by unfold protocol_ValidName.f; rw [V2.out])).mono ?_
  rintro e w3 ⟨rfl, hB⟩
  have HB3 := Aside0.mk (HB2.out.trans (hB.mono HB2.out.size))
  have HG3 := Aside0.mk (Glob_below HG2.out hB)
  clear hB
  go_wp2_with fail
  refine (protocol_ValidName.calls ⟨#[]⟩ false w3 HG3.out (by unfold protocol_ValidName.f; rw [V3.out])).mono ?_
  rintro e w4 ⟨rfl, hB⟩
  have HB4 := Aside0.mk (HB3.out.trans (hB.mono HB3.out.size))
  clear hB
  go_wp2_with fail
  go_ret
  exact ⟨rfl, HB4.out⟩
end Go.Proofs.YtoggkfapdomhgaaDoor.Pr
