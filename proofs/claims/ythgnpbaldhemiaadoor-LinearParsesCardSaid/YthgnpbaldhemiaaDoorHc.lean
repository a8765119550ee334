/- The contract of linear.FormatRow: its text is rowL's; conditions: what the row's slice reads as, and what the library's variables hold (Glob). -/
import Derived.Test.YthgnpbaldhemiaaDoorHb
namespace Go.Proofs.YthgnpbaldhemiaaDoor.Pr
open Go.RowKit Go.Proofs.YthgnpbaldhemiaaDoorW.PrintWords Go.Proofs.YthgnpbaldhemiaaDoorW.PrintLast Go.Proofs.YthgnpbaldhemiaaDoorW.PrintMore
attribute [local go_sem] max2_int min2_int max_two min_two
set_option linter.unusedVariables false
set_option linter.unusedSimpArgs false

def linear_FormatRow.f (l0_0 : List Int) (a0_1 : Int) : Option (ByteArray × Int) := if l0_0.length > 96 then some (⟨#[]⟩, 1) else if smallB l0_0 a0_1 = true then some (⟨(rowL l0_0 a0_1).toArray⟩, 0) else some (⟨#[]⟩, 4)

theorem heap_new (w : World) (o : Obj) : (w.alloc o).heap[w.heap.size]? = some o := by
  unfold World.alloc
  exact Array.getElem?_push_size
theorem builder_new (w : World) : Lib.IsBuilder 55 5 w.heap.size w.heap.size (Lib.byteCells []) (w.alloc (Obj.cells #[.pointer none, .slice none 0 0] 55)) :=
  Or.inl ⟨Nat.le_refl _, .slice none 0 0, heap_new _ _, own_nil _ _ _ _, by simp [Value.ownBlock]⟩

theorem IsBuilder_below {B b : Nat} {bs : List Value} {w w1 : World} (h : Lib.IsBuilder 55 5 B b bs w) (hb : Below w.heap.size w w1) : Lib.IsBuilder 55 5 B b bs w1 := by
  have key : ∀ p, Lib.BuilderAt 55 5 B b p bs w → Lib.BuilderAt 55 5 B b p bs w1 := fun p hp => by
    have hlt := hp.lt
    obtain ⟨hB, v, hv, ho, hne⟩ := hp
    exact ⟨hB, v, by rw [hb.block b hlt]; exact hv, pw_own_below ho hb, hne⟩
  exact h.imp (key _) (key _)
theorem bdata_append (a b : ByteArray) : (a ++ b).data.toList = a.data.toList ++ b.data.toList := by simp
theorem ret_str {a b : ByteArray} {n : Int} (h : a = b) : Ending.returned (.tuple #[.string a, .int .i64 n]) = .returned (.tuple #[.string b, .int .i64 n]) := by rw [h]
theorem str_any (B b : Nat) (l : List UInt8) (w : World) (h : Lib.IsBuilder 55 5 B b (Lib.byteCells l) w) (hBw : B ≤ w.heap.size) :
    Calls Tryd.prog 26 #[.pointer (some ⟨b, 0, none⟩)] w fun e w' => ∃ s : ByteArray, e = .returned (.string s) ∧ Aside0 (s.data.toList = l) ∧ s.size ≤ l.length ∧ Below B w w' :=
  (Tryd.Builder_String_any B b l w h hBw).mono fun e w' ⟨h1, h2⟩ => ⟨_, h1, ⟨by simp⟩, by show l.toArray.size ≤ _; simp, h2⟩
theorem str_eq {s : ByteArray} {l : List UInt8} (h : s.data.toList = l) : s = ⟨l.toArray⟩ := by
  subst h
  simp
theorem all_take {cs : List Int} {k : Int} (h : smallB cs k = true) (i : Nat) : (cs.take i).all inB = true := by
  simp only [smallB, Bool.and_eq_true, List.all_eq_true] at h ⊢
  exact fun x hx => h.1 x (List.mem_of_mem_take hx)
theorem all_rd {cs : List Int} {k : Int} (h : smallB cs k = true) (i : Nat) (hi : i < cs.length) : inB (rd cs i) = true := by
  simp only [smallB, Bool.and_eq_true, List.all_eq_true] at h
  exact h.1 _ (by simp [rd, hi])
theorem all_k {cs : List Int} {k : Int} (h : smallB cs k = true) : inB k = true := by
  simp only [smallB, Bool.and_eq_true] at h
  exact h.2

set_option maxHeartbeats 2000000 in
set_option maxRecDepth 100000 in
theorem format_long (A0_0 : Option Addr) (c0_0 : Nat) (l0_0 : List Int) (a0_1 : Int) (w : World) (hl : 96 < l0_0.length) :
    Calls Tryd.prog 10 #[.agg #[.slice A0_0 l0_0.length c0_0, .int .i64 a0_1]] w fun e w' => e = .returned (.tuple #[.string ⟨#[]⟩, .int .i64 1]) ∧ Below w.heap.size w w' := by
  go_enter Tryd.func10, Tryd.ntmps10
  go_wp2
  go_ret2
  exact ⟨rfl, (Below.refl _ _).alloc (Nat.le_refl _) _⟩

set_option maxHeartbeats 2000000 in
set_option maxRecDepth 100000 in
theorem format_large (A0_0 : Option Addr) (c0_0 : Nat) (l0_0 : List Int) (a0_1 : Int) (w : World) (hl : l0_0.length ≤ 96) (hr0_0 : Kd.C (Kd.int .i64) w A0_0 l0_0.length l0_0) (hc0_0 : l0_0.length ≤ c0_0) (hs : smallB l0_0 a0_1 = false) :
    Calls Tryd.prog 10 #[.agg #[.slice A0_0 l0_0.length c0_0, .int .i64 a0_1]] w fun e w' => e = .returned (.tuple #[.string ⟨#[]⟩, .int .i64 4]) ∧ Below w.heap.size w w' := by
  have HR := Aside0.mk hr0_0
  have HS : Aside0 (linear_small.f (l0_0.length + 1) l0_0 a0_1 = some false) := ⟨by rw [small_eq _ _ (by omega), hs]⟩
  clear hr0_0 hs
  go_enter Tryd.func10, Tryd.ntmps10
  go_wp2_with (first | (go_at_call 22; refine (linear_small.calls (l0_0.length + 1) A0_0 c0_0 l0_0 a0_1 false _ (Kd.C_alloc HR.out _) hc0_0 HS.out).mono ?_; rintro e w1 ⟨rfl, hb⟩))
  go_ret2
  exact ⟨rfl, ((Below.refl _ _).alloc (Nat.le_refl _) _).trans (hb.mono (by simp))⟩

set_option maxHeartbeats 4000000 in
set_option maxRecDepth 100000 in
theorem format_small (A0_0 : Option Addr) (c0_0 : Nat) (l0_0 : List Int) (a0_1 : Int) (w : World) (hG : Glob w) (hl : l0_0.length ≤ 96) (hr0_0 : Kd.C (Kd.int .i64) w A0_0 l0_0.length l0_0) (hc0_0 : l0_0.length ≤ c0_0) (hs : smallB l0_0 a0_1 = true) :
    Calls Tryd.prog 10 #[.agg #[.slice A0_0 l0_0.length c0_0, .int .i64 a0_1]] w fun e w' => e = .returned (.tuple #[.string ⟨(rowL l0_0 a0_1).toArray⟩, .int .i64 0]) ∧ Below w.heap.size w w' := by
  have HR := Aside0.mk hr0_0
  have HG := Aside0.mk hG
  have HS : Aside0 (linear_small.f (l0_0.length + 1) l0_0 a0_1 = some true) := ⟨by rw [small_eq _ _ (by omega), hs]⟩
  have HS2 := Aside0.mk hs
  clear hr0_0 hs hG
  go_enter Tryd.func10, Tryd.ntmps10
  go_wp2_with fail
  refine (linear_small.calls (l0_0.length + 1) A0_0 c0_0 l0_0 a0_1 true _ (Kd.C_alloc HR.out _) hc0_0 HS.out).mono ?_
  rintro e w1 ⟨rfl, hb⟩
  have HB1 : Aside0 (Below (w.heap.size + 1) (w.alloc (Obj.cells #[.slice A0_0 l0_0.length c0_0, .int .i64 a0_1] 25)) w1) := ⟨hb.mono (by simp)⟩
  have HBw : Aside0 (Below w.heap.size w w1) := ⟨((Below.refl _ _).alloc (Nat.le_refl _) _).trans (hb.mono (by simp))⟩
  have hw1 : w.heap.size + 1 ≤ w1.heap.size := by have := hb.size; simp at this; omega
  clear hb
  have hw1' : w.heap.size < w1.heap.size := by omega
  have hx0 : w1.cell? ⟨w.heap.size, 0, none⟩ = some (.slice A0_0 l0_0.length c0_0) := (HB1.out.cell (by simp)).trans (by go_simp)
  have hx1 : w1.cell? ⟨w.heap.size, 1, none⟩ = some (.int .i64 a0_1) := (HB1.out.cell (by simp)).trans (by go_simp)
  go_wp2
  go_loopw [18] (fun v18 W => ∃ i : Nat, i ≤ l0_0.length ∧ v18 = .int .i64 i ∧ Aside0 (Below w1.heap.size w1 W) ∧ Aside0 (Lib.IsBuilder 55 5 w1.heap.size w1.heap.size (Lib.byteCells (termsL (l0_0.take i) 0 [])) W)) (fun v18 _ => l0_0.length - (intOf v18).toNat)
  case atStart => exact ⟨0, Nat.zero_le _, rfl, ⟨(Below.refl _ _).alloc (Nat.le_refl _) _⟩, ⟨builder_new _⟩⟩
  case round =>
    obtain ⟨i, hi, rfl, HBr, HI⟩ := hrel
    clear hx0 hx1
    have hx0 : wr.cell? ⟨w.heap.size, 0, none⟩ = some (.slice A0_0 l0_0.length c0_0) := (HBr.out.cell (by simp; omega)).trans ((HB1.out.cell (by simp)).trans (by go_simp))
    have hx1 : wr.cell? ⟨w.heap.size, 1, none⟩ = some (.int .i64 a0_1) := (HBr.out.cell (by simp; omega)).trans ((HB1.out.cell (by simp)).trans (by go_simp))
    have HGr : Aside0 (Glob wr) := ⟨Glob_below HG.out (HBw.out.trans (HBr.out.mono (by omega)))⟩
    have hsz : w1.heap.size ≤ wr.heap.size := HBr.out.size
    by_cases hlt : i < l0_0.length
    · have hb1 : (i : Int) < 97 := by omega
      have hT := Aside0.mk (termsL_len (l0_0.take i) 0 [] (all_take HS2.out i) (by simp; omega))
      have hTs := Aside0.mk (termsL_snoc l0_0 i hlt)
      have hxs := Aside0.mk (all_rd HS2.out i hlt)
      obtain ⟨ad, rfl, hc0⟩ := ReadsOf.at_ (Kd.reads_of_C (d := (0 : Int)) HR.out) i (by omega) (by omega)
      have hc : wr.cell? (ad.add i) = some (.int .i64 (rd l0_0 i)) := (HBr.out.cell (by have := World.block_lt_of_cell? w _ hc0; simp at this ⊢; omega)).trans ((HBw.out.cell (World.block_lt_of_cell? w _ hc0)).trans hc0)
      clear hc0
      generalize hx : rd l0_0 i = x at hc hTs hxs
      clear hx
      generalize hTT : termsL (l0_0.take i) 0 [] = T at HI hTs hT
      clear hTT
      have hTb : T.length ≤ 5000 := by
        have := hT.out
        simp at this
        omega
      clear hT
      by_cases h0 : x = 0
      · subst h0
        go_wp2
        go_roundw
        case rel => exact ⟨i + 1, by omega, by go_num, HBr, ⟨by rw [hTs.out]; simpa [addTerm] using HI.out⟩⟩
        case measure => simp [intOf]; omega
      · have hxb := (inB_iff x).1 hxs.out
        have hx1' := hxb.1
        have hx2' := hxb.2
        clear hxb
        have e0 : (x == 0) = false := beq_eq_false_iff_ne.2 h0
        have hmx := mx_bound hxs.out
        have hmx1 := hmx.1
        have hmx2 := hmx.2
        clear hmx
        by_cases h1 : x = 1
        · subst h1
          go_wp2_with fail
          refine (itoa_any i (by omega) (by omega) _ HGr.out).mono ?_
          rintro e wa ⟨s1, rfl, hs1, hz1, hb⟩
          have HBa := Aside0.mk (HBr.out.trans (hb.mono hsz))
          have HIa := Aside0.mk (IsBuilder_below HI.out hb)
          have hwa := hb.size
          clear hb
          go_wp2_with fail
          refine (write_any w1.heap.size w1.heap.size T false ((⟨#[120]⟩ : ByteArray) ++ s1) _ HIa.out (by rw [ByteArray.size_append]; show _ + (1 + _) ≤ _; omega) (by omega)).mono ?_
          rintro e wb ⟨rfl, hI, hb⟩
          have HBb := Aside0.mk (HBa.out.trans hb)
          have HIb := Aside0.mk hI
          clear hb hI
          go_wp2
          go_roundw
          case rel => exact ⟨i + 1, by omega, by go_num, HBb, ⟨by rw [hTs.out]; simpa [addTerm, termL, hs1.out] using HIb.out⟩⟩
          case measure => simp [intOf]; omega
        · by_cases h2 : x = -1
          · subst h2
            go_wp2_with fail
            refine (itoa_any i (by omega) (by omega) _ HGr.out).mono ?_
            rintro e wa ⟨s1, rfl, hs1, hz1, hb⟩
            have HBa := Aside0.mk (HBr.out.trans (hb.mono hsz))
            have HIa := Aside0.mk (IsBuilder_below HI.out hb)
            have hwa := hb.size
            clear hb
            go_wp2_with fail
            refine (write_any w1.heap.size w1.heap.size T true ((⟨#[120]⟩ : ByteArray) ++ s1) _ HIa.out (by rw [ByteArray.size_append]; show _ + (1 + _) ≤ _; omega) (by omega)).mono ?_
            rintro e wb ⟨rfl, hI, hb⟩
            have HBb := Aside0.mk (HBa.out.trans hb)
            have HIb := Aside0.mk hI
            clear hb hI
            go_wp2
            go_roundw
            case rel => exact ⟨i + 1, by omega, by go_num, HBb, ⟨by rw [hTs.out]; simpa [addTerm, termL, hs1.out] using HIb.out⟩⟩
            case measure => simp [intOf]; omega
          · have e1 : (x == 1) = false := beq_eq_false_iff_ne.2 h1
            have e1' : (x != 1) = true := bne_iff_ne.2 h1
            have e2 : (x == -1) = false := beq_eq_false_iff_ne.2 h2
            have e2' : (x != -1) = true := bne_iff_ne.2 h2
            by_cases h3 : x < 0
            · have e3 : decide (x < 0) = true := by simpa using h3
              have em : Aside0 (mx x (-x) = -x) := ⟨by unfold mx; split <;> omega⟩
              go_wp2_with fail
              refine (itoa_any i (by omega) (by omega) _ HGr.out).mono ?_
              rintro e wa ⟨s1, rfl, hs1, hz1, hb⟩
              have HBa := Aside0.mk (HBr.out.trans (hb.mono hsz))
              have HIa := Aside0.mk (IsBuilder_below HI.out hb)
              have HGa := Aside0.mk (Glob_below HGr.out hb)
              have hwa := hb.size
              clear hb
              go_wp2_with fail
              refine (itoa_any (-x) (by omega) (by omega) _ HGa.out).mono ?_
              rintro e wc ⟨s2, rfl, hs2, hz2, hb⟩
              have HBc := Aside0.mk (HBa.out.trans (hb.mono (Nat.le_trans hsz hwa)))
              have HIc := Aside0.mk (IsBuilder_below HIa.out hb)
              have hwc := hb.size
              clear hb
              go_wp2_with fail
              refine (write_any w1.heap.size w1.heap.size T true ((s2 ++ (⟨#[42]⟩ : ByteArray)) ++ ((⟨#[120]⟩ : ByteArray) ++ s1)) _ HIc.out (by rw [ByteArray.size_append, ByteArray.size_append, ByteArray.size_append]; show _ + (_ + 1 + (1 + _)) ≤ _; omega) (by omega)).mono ?_
              rintro e wb ⟨rfl, hI, hb⟩
              have HBb := Aside0.mk (HBc.out.trans hb)
              have HIb := Aside0.mk hI
              clear hb hI
              go_wp2
              go_roundw
              case rel => exact ⟨i + 1, by omega, by go_num, HBb, ⟨by rw [hTs.out]; simpa [addTerm, termL, hs1.out, hs2.out, em.out, h0, h1, h2, e3] using HIb.out⟩⟩
              case measure => simp [intOf]; omega
            · have e3 : decide (x < 0) = false := by simpa using h3
              have em : Aside0 (mx x (-x) = x) := ⟨by unfold mx; split <;> omega⟩
              go_wp2_with fail
              refine (itoa_any i (by omega) (by omega) _ HGr.out).mono ?_
              rintro e wa ⟨s1, rfl, hs1, hz1, hb⟩
              have HBa := Aside0.mk (HBr.out.trans (hb.mono hsz))
              have HIa := Aside0.mk (IsBuilder_below HI.out hb)
              have HGa := Aside0.mk (Glob_below HGr.out hb)
              have hwa := hb.size
              clear hb
              go_wp2_with fail
              refine (itoa_any x (by omega) (by omega) _ HGa.out).mono ?_
              rintro e wc ⟨s2, rfl, hs2, hz2, hb⟩
              have HBc := Aside0.mk (HBa.out.trans (hb.mono (Nat.le_trans hsz hwa)))
              have HIc := Aside0.mk (IsBuilder_below HIa.out hb)
              have hwc := hb.size
              clear hb
              go_wp2_with fail
              refine (write_any w1.heap.size w1.heap.size T false ((s2 ++ (⟨#[42]⟩ : ByteArray)) ++ ((⟨#[120]⟩ : ByteArray) ++ s1)) _ HIc.out (by rw [ByteArray.size_append, ByteArray.size_append, ByteArray.size_append]; show _ + (_ + 1 + (1 + _)) ≤ _; omega) (by omega)).mono ?_
              rintro e wb ⟨rfl, hI, hb⟩
              have HBb := Aside0.mk (HBc.out.trans hb)
              have HIb := Aside0.mk hI
              clear hb hI
              go_wp2
              go_roundw
              case rel => exact ⟨i + 1, by omega, by go_num, HBb, ⟨by rw [hTs.out]; simpa [addTerm, termL, hs1.out, hs2.out, em.out, h0, h1, h2, e3] using HIb.out⟩⟩
              case measure => simp [intOf]; omega
    · obtain rfl : i = l0_0.length := by omega
      have hkb := (inB_iff a0_1).1 (all_k HS2.out)
      have hkx := mx_bound (all_k HS2.out)
      have hT := Aside0.mk (termsL_len (l0_0.take l0_0.length) 0 [] (all_take HS2.out _) (by simp; omega))
      have hrow : Aside0 (rowL l0_0 a0_1 = bodyL l0_0 a0_1 ++ [32, 62, 61, 32, 48]) := ⟨rfl⟩
      have hbody : Aside0 (bodyL l0_0 a0_1 = if a0_1 = 0 ∧ (termsL (l0_0.take l0_0.length) 0 []).isEmpty = false then termsL (l0_0.take l0_0.length) 0 [] else termsL (l0_0.take l0_0.length) 0 [] ++ sep (termsL (l0_0.take l0_0.length) 0 []).isEmpty (decide (a0_1 < 0)) ++ Lib.itoa (mx a0_1 (-a0_1))) := ⟨by rw [List.take_length]; rfl⟩
      generalize hTT : termsL (l0_0.take l0_0.length) 0 [] = T at HI hT hbody
      clear hTT
      generalize hBB : bodyL l0_0 a0_1 = Bo at hrow hbody
      clear hBB
      have hTb : T.length ≤ 5000 := by
        have := hT.out
        simp at this
        omega
      clear hT
      have hk1 := hkb.1
      have hk2 := hkb.2
      have hm1 := hkx.1
      have hm2 := hkx.2
      clear hkb hkx
      by_cases h0 : a0_1 = 0
      · subst h0
        cases T with
        | cons c T =>
          have hn : Aside0 ((((c :: T)).length : Int) = (T.length : Int) + 1) := ⟨by simp⟩
          have hz : (((T.length : Int) + 1) == 0) = false := by rw [beq_eq_false_iff_ne]; omega
          go_wp2_with (first | (go_at_call 25; refine (len_any _ _ (c :: T) _ HI.out _ hn.out).mono ?_; rintro e w' ⟨rfl, rfl⟩))
          refine (str_any _ _ _ _ HI.out hsz).mono ?_
          rintro e wb ⟨s, rfl, hs, hsl, hb⟩
          have HBb := Aside0.mk (HBr.out.trans (hb.mono (Nat.le_refl _)))
          clear hb
          have hsl' : s.size ≤ 6000 := by simp at hsl hTb; omega
          clear hsl
          go_wp2
          go_ret2
          exact ⟨ret_str (str_eq (by rw [hrow.out, hbody.out, bdata_append, hs.out]; simp [sep])), HBw.out.trans (HBb.out.mono (by omega))⟩
        | nil =>
          have hn : Aside0 ((([] : List UInt8).length : Int) = 0) := ⟨rfl⟩
          go_wp2_with (first | (go_at_call 25; refine (len_any _ _ [] _ HI.out _ hn.out).mono ?_; rintro e w' ⟨rfl, rfl⟩))
          have hM : Aside0 ((if (0 : Int) < IntKind.i64.wrap 0 then IntKind.i64.wrap 0 else 0) = 0) := ⟨rfl⟩
          go_region_held3 (fun W' => W'.cell? ⟨w.heap.size, 1, none⟩ = some (.int .i64 0)) (first | exact hx1 | exact hxa | exact hxb) (first | (go_at_call 23; refine calls_of_args (args' := #[.int .i64 0]) (by first | rfl | rw [hM.out]) ?_; refine (itoa_any 0 (by omega) (by omega) _ (Glob_drew HGr.out)).mono ?_; rintro e wa ⟨s2, rfl, hs2, hz2, hb⟩; have HBa := Aside0.mk (HBr.out.trans ((below_drew (Below.refl _ _)).trans (hb.mono hsz))); have HIa := Aside0.mk (IsBuilder_below HI.out ((below_drew (Below.refl _ _)).trans hb)); have hwa := hb.size; have hxa : wa.cell? ⟨w.heap.size, 1, none⟩ = some (.int .i64 0) := (hb.cell (World.block_lt_of_cell? _ _ hx1)).trans hx1; clear hb) | (go_at_call 24; refine (write_any w1.heap.size w1.heap.size [] false s2 _ HIa.out (by first | omega | (simp; omega)) (by first | omega | (simp at hwa; omega))).mono ?_; rintro e wb ⟨rfl, hI, hb⟩; have HBb := Aside0.mk (HBa.out.trans hb); have HIb := Aside0.mk hI; have hxb : wb.cell? ⟨w.heap.size, 1, none⟩ = some (.int .i64 0) := (hb.cell (by simp; omega)).trans hxa; have hwb := hb.size; clear hb hI))
          go_wp2_with fail
          refine (str_any _ _ _ _ HIb.out (by first | omega | (simp at hwa; omega))).mono ?_
          rintro e wc ⟨s, rfl, hs, hsl, hb⟩
          have HBc := Aside0.mk (HBb.out.trans (hb.mono (Nat.le_refl _)))
          clear hb
          have hsl' : s.size ≤ 6000 := by
            have h1 : s2.data.toList.length = s2.size := by simp
            have h2 := sep_len true false
            simp at hsl
            omega
          clear hsl
          go_wp2
          go_ret2
          exact ⟨ret_str (str_eq (by rw [hrow.out, hbody.out, bdata_append, hs.out, hs2.out]; simp [sep, mx])), HBw.out.trans (HBc.out.mono (by omega))⟩
      · have e0 : (a0_1 == 0) = false := beq_eq_false_iff_ne.2 h0
        have e0' : (a0_1 != 0) = true := bne_iff_ne.2 h0
        by_cases h3 : a0_1 < 0
        · have e3 : decide (a0_1 < 0) = true := by simpa using h3
          have em : Aside0 (mx a0_1 (-a0_1) = -a0_1) := ⟨by unfold mx; split <;> omega⟩
          have hM : Aside0 ((if a0_1 < IntKind.i64.wrap (-a0_1) then IntKind.i64.wrap (-a0_1) else a0_1) = -a0_1) := ⟨by rw [show IntKind.i64.wrap (-a0_1) = -a0_1 from IntWalk.i64_in _ (by omega)]; split <;> omega⟩
          go_wp2_with fail
          have hw_ : IntKind.i64.wrap (-a0_1) = -a0_1 := IntWalk.i64_in _ (by omega)
          have hd_ : a0_1 < -a0_1 := by omega
          go_region_held3 (fun W' => W'.cell? ⟨w.heap.size, 1, none⟩ = some (.int .i64 a0_1)) (first | exact hx1 | exact hxa | exact hxb) (first | (go_at_call 23; refine calls_of_args (args' := #[.int .i64 (-a0_1)]) (by first | rfl | rw [hM.out]) ?_; refine (itoa_any (-a0_1) (by omega) (by omega) _ (Glob_drew HGr.out)).mono ?_; rintro e wa ⟨s2, rfl, hs2, hz2, hb⟩; have HBa := Aside0.mk (HBr.out.trans ((below_drew (Below.refl _ _)).trans (hb.mono hsz))); have HIa := Aside0.mk (IsBuilder_below HI.out ((below_drew (Below.refl _ _)).trans hb)); have hwa := hb.size; have hxa : wa.cell? ⟨w.heap.size, 1, none⟩ = some (.int .i64 a0_1) := (hb.cell (World.block_lt_of_cell? _ _ hx1)).trans hx1; clear hb) | (go_at_call 24; refine calls_of_args (args' := #[.pointer (some ⟨w1.heap.size, 0, none⟩), .bool true, .string s2]) (by first | rfl | rw [e3]) ?_; refine (write_any w1.heap.size w1.heap.size T true s2 _ HIa.out (by first | omega | (simp; omega)) (by first | omega | (simp at hwa; omega))).mono ?_; rintro e wb ⟨rfl, hI, hb⟩; have HBb := Aside0.mk (HBa.out.trans hb); have HIb := Aside0.mk hI; have hxb : wb.cell? ⟨w.heap.size, 1, none⟩ = some (.int .i64 a0_1) := (hb.cell (by simp; omega)).trans hxa; have hwb := hb.size; clear hb hI))
          go_wp2_with fail
          refine (str_any _ _ _ _ HIb.out (by first | omega | (simp at hwa; omega))).mono ?_
          rintro e wc ⟨s, rfl, hs, hsl, hb⟩
          have HBc := Aside0.mk (HBb.out.trans (hb.mono (Nat.le_refl _)))
          clear hb
          have hsl' : s.size ≤ 6000 := by
            have h1 : s2.data.toList.length = s2.size := by simp
            have h2 := sep_len T.isEmpty true
            simp at hsl
            omega
          clear hsl
          go_wp2
          go_ret2
          exact ⟨ret_str (str_eq (by rw [hrow.out, hbody.out, bdata_append, hs.out, hs2.out]; simp [h0, e3, em.out])), HBw.out.trans (HBc.out.mono (by omega))⟩
        · have e3 : decide (a0_1 < 0) = false := by simpa using h3
          have em : Aside0 (mx a0_1 (-a0_1) = a0_1) := ⟨by unfold mx; split <;> omega⟩
          have hM : Aside0 ((if a0_1 < IntKind.i64.wrap (-a0_1) then IntKind.i64.wrap (-a0_1) else a0_1) = a0_1) := ⟨by rw [show IntKind.i64.wrap (-a0_1) = -a0_1 from IntWalk.i64_in _ (by omega)]; split <;> omega⟩
          go_wp2_with fail
          have hw_ : IntKind.i64.wrap (-a0_1) = -a0_1 := IntWalk.i64_in _ (by omega)
          have hd_ : ¬ (a0_1 < -a0_1) := by omega
          go_region_held3 (fun W' => W'.cell? ⟨w.heap.size, 1, none⟩ = some (.int .i64 a0_1)) (first | exact hx1 | exact hxa | exact hxb) (first | (go_at_call 23; refine calls_of_args (args' := #[.int .i64 (a0_1)]) (by first | rfl | rw [hM.out]) ?_; refine (itoa_any (a0_1) (by omega) (by omega) _ (Glob_drew HGr.out)).mono ?_; rintro e wa ⟨s2, rfl, hs2, hz2, hb⟩; have HBa := Aside0.mk (HBr.out.trans ((below_drew (Below.refl _ _)).trans (hb.mono hsz))); have HIa := Aside0.mk (IsBuilder_below HI.out ((below_drew (Below.refl _ _)).trans hb)); have hwa := hb.size; have hxa : wa.cell? ⟨w.heap.size, 1, none⟩ = some (.int .i64 a0_1) := (hb.cell (World.block_lt_of_cell? _ _ hx1)).trans hx1; clear hb) | (go_at_call 24; refine calls_of_args (args' := #[.pointer (some ⟨w1.heap.size, 0, none⟩), .bool false, .string s2]) (by first | rfl | rw [e3]) ?_; refine (write_any w1.heap.size w1.heap.size T false s2 _ HIa.out (by first | omega | (simp; omega)) (by first | omega | (simp at hwa; omega))).mono ?_; rintro e wb ⟨rfl, hI, hb⟩; have HBb := Aside0.mk (HBa.out.trans hb); have HIb := Aside0.mk hI; have hxb : wb.cell? ⟨w.heap.size, 1, none⟩ = some (.int .i64 a0_1) := (hb.cell (by simp; omega)).trans hxa; have hwb := hb.size; clear hb hI))
          go_wp2_with fail
          refine (str_any _ _ _ _ HIb.out (by first | omega | (simp at hwa; omega))).mono ?_
          rintro e wc ⟨s, rfl, hs, hsl, hb⟩
          have HBc := Aside0.mk (HBb.out.trans (hb.mono (Nat.le_refl _)))
          clear hb
          have hsl' : s.size ≤ 6000 := by
            have h1 : s2.data.toList.length = s2.size := by simp
            have h2 := sep_len T.isEmpty false
            simp at hsl
            omega
          clear hsl
          go_wp2
          go_ret2
          exact ⟨ret_str (str_eq (by rw [hrow.out, hbody.out, bdata_append, hs.out, hs2.out]; simp [h0, e3, em.out])), HBw.out.trans (HBc.out.mono (by omega))⟩

theorem linear_FormatRow.calls (A0_0 : Option Addr) (c0_0 : Nat) (l0_0 : List Int) (a0_1 : Int) (r1 : ByteArray) (r2 : Int) (w : World) (hG : Glob w) (hr0_0 : Kd.C (Kd.int .i64) w A0_0 l0_0.length l0_0) (hc0_0 : l0_0.length ≤ c0_0) (h : linear_FormatRow.f l0_0 a0_1 = some (r1, r2)) :
    Calls Tryd.prog 10 #[.agg #[.slice A0_0 l0_0.length c0_0, .int .i64 a0_1]] w fun e w' => e = .returned (.tuple #[.string r1, .int .i64 r2]) ∧ Below w.heap.size w w' := by
  unfold linear_FormatRow.f at h
  split at h
  · simp only [Option.some.injEq, Prod.mk.injEq] at h
    obtain ⟨rfl, rfl⟩ := h
    exact format_long A0_0 c0_0 l0_0 a0_1 w (by omega)
  · split at h
    · rename_i hs
      simp only [Option.some.injEq, Prod.mk.injEq] at h
      obtain ⟨rfl, rfl⟩ := h
      exact format_small A0_0 c0_0 l0_0 a0_1 w hG (by omega) hr0_0 hc0_0 hs
    · rename_i hs
      simp only [Option.some.injEq, Prod.mk.injEq] at h
      obtain ⟨rfl, rfl⟩ := h
      exact format_large A0_0 c0_0 l0_0 a0_1 w (by omega) hr0_0 hc0_0 (by simpa using hs)
end Go.Proofs.YthgnpbaldhemiaaDoor.Pr
