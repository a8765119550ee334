import Derived.Test.YtoggkfapdomhgaaDoorHa
import Derived.Test.YtoggkfapdomhgaaDoorShelf
import Derived.Laws.RangeString
import Derived.Laws.RangeAny
import Derived.LoopTactic
namespace Go.Proofs.YtoggkfapdomhgaaDoor.Pr
open Go.RowKit Go.Proofs.YtoggkfapdomhgaaDoorW.PrintWords Go.Proofs.YtoggkfapdomhgaaDoorW.PrintLast Go.Proofs.YtoggkfapdomhgaaDoorW.PrintMore
set_option maxRecDepth 100000
def nameCh (first : Bool) (r : Int) : Bool := (decide (97 ≤ r) && decide (r ≤ 122)) || (!first && ((decide (48 ≤ r) && decide (r ≤ 57)) || r == 95))
def nameGo (s : ByteArray) : Nat → Nat → Bool
  | 0, _ => true
  | b + 1, pos => if pos < s.size then nameCh (pos == 0) (Utf8.decode s pos).1 && nameGo s b (pos + (Utf8.decode s pos).2) else true
theorem width_pos (s : ByteArray) (pos : Nat) (h : pos < s.size) : 1 ≤ (Utf8.decode s pos).2 := by
  by_cases ha : (s[pos]'h).toNat < 128
  · rw [decode_ascii s pos h ha]
    exact Nat.le_refl _
  · exact (decode_high s pos h (by omega)).2
/-- The words that are no names. -/
def resL : List UInt8 := [112, 114, 111, 116, 111, 99, 111, 108, 32, 116, 111, 112, 111, 108, 111, 103, 121, 32, 115, 116, 97, 116, 101, 115, 32, 109, 101, 115, 115, 97, 103, 101, 115, 32, 118, 97, 108, 117, 101, 115, 32, 102, 97, 117, 108, 116, 115, 32, 114, 101, 115, 105, 108, 105, 101, 110, 99, 101, 32, 105, 110, 105, 116, 105, 97, 108, 32, 108, 101, 97, 100, 101, 114, 32, 114, 117, 108, 101, 32, 108, 111, 99, 97, 108, 32, 112, 97, 105, 114, 32, 98, 114, 111, 97, 100, 99, 97, 115, 116, 32, 110, 101, 105, 103, 104, 98, 111, 114, 32, 112, 97, 115, 115, 32, 119, 104, 101, 110, 32, 101, 120, 105, 115, 116, 115, 32, 102, 111, 114, 97, 108, 108, 32, 114, 101, 97, 100, 32, 119, 114, 105, 116, 101, 32, 115, 101, 110, 100, 32, 97, 108, 108, 32, 97, 116, 32, 102, 105, 114, 115, 116, 32, 108, 97, 115, 116, 32, 108, 101, 102, 116, 32, 114, 105, 103, 104, 116, 32, 112, 97, 114, 101, 110, 116, 32, 99, 104, 105, 108, 100, 32, 112, 114, 111, 112, 101, 114, 116, 121, 32, 110, 101, 118, 101, 114, 32, 101, 118, 101, 110, 116, 117, 97, 108, 108, 121, 32, 115, 116, 97, 114, 116, 32, 99, 111, 117, 110, 116, 32, 97, 100, 106, 97, 99, 101, 110, 116, 32, 103, 111, 97, 108, 32, 99, 108, 105, 113, 117, 101, 32, 108, 105, 110, 101, 32, 114, 105, 110, 103, 32, 116, 114, 101, 101, 32, 99, 114, 97, 115, 104, 32, 111, 109, 105, 115, 115, 105, 111, 110, 32, 97, 114, 98, 105, 116, 114, 97, 114, 121]
def resWords : List ByteArray := (Lib.fields resL).map fun l => ⟨l.toArray⟩
def isRes (s : ByteArray) : Bool := Lib.containsS resWords s
structure Glob (w : World) : Prop where
  size : 6 ≤ w.heap.size
  space : Lib.TabIs Tryd.prog w "strings.asciiSpace" .u8 Lib.asciiSpaceTab
theorem gnSpace : Tryd.prog.globalNamed "strings.asciiSpace" = some 0 := by kernel_rfl
theorem Glob_below {w w1 : World} (h : Glob w) (hb : Below w.heap.size w w1) : Glob w1 :=
  ⟨Nat.le_trans h.size hb.size, var?_below hb gnSpace (by have := h.size; omega) h.space⟩
theorem iter_below (w : World) (s : ByteArray) (pos : Nat) : Below w.heap.size w (w.iter s pos) := by
  unfold World.iter
  exact (Below.refl _ _).alloc (Nat.le_refl _) _
set_option maxHeartbeats 4000000 in
theorem validName_any (s : ByteArray) (w : World) (rs : Bool) (hG : Glob w) (hres : ∀ w', Glob w' → Calls Tryd.prog 32 #[.string s] w' fun e w2 => e = .returned (.bool rs) ∧ Below w'.heap.size w' w2) (h0 : 0 < s.size) (h1 : s.size ≤ 12) :
    Calls Tryd.prog 13 #[.string s] w fun e w' => e = .returned (.bool (nameGo s s.size 0 && !rs)) ∧ Below w.heap.size w w' := by
  have c1 : (s.toList == ([] : List UInt8)) = false := by
    rw [ByteArray.toList_eq, beq_eq_false_iff_ne]
    intro h
    have h2 : s.data.toList.length = s.size := by simp
    rw [h] at h2
    simp only [List.length_nil] at h2
    omega
  have c2 : decide ((12 : Int) < (s.size : Int)) = false := decide_eq_false (by omega)
  have HG := Aside0.mk hG
  have HRs := Aside0.mk hres
  clear hG hres
  go_enter Tryd.func13, Tryd.ntmps13
  go_wp2_with fail
  go_loopw [] (fun w' => ∃ (pos b : Nat), w' = w.iter s pos ∧ Aside0 (nameGo s b pos = nameGo s s.size 0) ∧ s.size ≤ pos + b) (fun w' => s.size - w'.iterPos w.heap.size)
  case atStart => exact ⟨0, s.size, rfl, ⟨rfl⟩, by omega⟩
  case round =>
    obtain ⟨pos, b, rfl, hc, hb⟩ := hrel
    by_cases hp : pos < s.size
    · have hnx : ∀ ty, (Instr.next (.pointer (some ⟨w.heap.size, 0, none⟩)) true ty).run Tryd.prog (w.iter s pos) = _ := fun ty => run_next_any w s pos ty hp
      have hwd := width_pos s pos hp
      cases b with
      | zero => omega
      | succ b =>
      have hgo : Aside0 (nameGo s s.size 0 = (nameCh (pos == 0) (Utf8.decode s pos).1 && nameGo s b (pos + (Utf8.decode s pos).2))) := ⟨by rw [← hc.out]; simp [nameGo, hp]⟩
      clear hc
      generalize hr : ((Utf8.decode s pos).1 : Int) = r at hnx hgo
      generalize (Utf8.decode s pos).2 = wd at hnx hgo hwd
      by_cases l1 : 97 ≤ r ∧ r ≤ 122
      · have d1 : decide ((97 : Int) ≤ r) = true := decide_eq_true l1.1
        have d2 : decide (r ≤ (122 : Int)) = true := decide_eq_true l1.2
        have hch : nameCh (pos == 0) r = true := by simp [nameCh, l1]
        go_wp2_with fail
        go_roundw
        case rel => exact ⟨pos + wd, b, rfl, ⟨by rw [hgo.out, hch]; simp⟩, by omega⟩
        case measure => simp; omega
      · by_cases p0 : pos = 0
        · subst p0
          by_cases a1 : 97 ≤ r
          · have d1 : decide ((97 : Int) ≤ r) = true := decide_eq_true a1
            have d2 : decide (r ≤ (122 : Int)) = false := decide_eq_false (by omega)
            have hch : nameCh ((0 : Nat) == 0) r = false := by simp [nameCh]; omega
            go_wp2_with fail
            go_ret
            exact ⟨by rw [hgo.out, hch]; simp, iter_below w s _⟩
          · have d1 : decide ((97 : Int) ≤ r) = false := decide_eq_false a1
            have hch : nameCh ((0 : Nat) == 0) r = false := by simp [nameCh]; omega
            go_wp2_with fail
            go_ret
            exact ⟨by rw [hgo.out, hch]; simp, iter_below w s _⟩
        · have q0 : ((pos : Int) == 0) = false := by rw [beq_eq_false_iff_ne]; omega
          by_cases a1 : 97 ≤ r
          · have d1 : decide ((97 : Int) ≤ r) = true := decide_eq_true a1
            have d2 : decide (r ≤ (122 : Int)) = false := decide_eq_false (by omega)
            have d3 : decide (r < (48 : Int)) = false := decide_eq_false (by omega)
            have d4 : decide ((57 : Int) < r) = true := decide_eq_true (by omega)
            have d5 : (r != 95) = true := bne_iff_ne.mpr (by omega)
            have hch : nameCh (pos == 0) r = false := by simp [nameCh]; omega
            go_wp2_with fail
            go_ret
            exact ⟨by rw [hgo.out, hch]; simp, iter_below w s _⟩
          · have d1 : decide ((97 : Int) ≤ r) = false := decide_eq_false a1
            by_cases a3 : r < 48
            · have d3 : decide (r < (48 : Int)) = true := decide_eq_true a3
              have d5 : (r != 95) = true := bne_iff_ne.mpr (by omega)
              have hch : nameCh (pos == 0) r = false := by simp [nameCh]; omega
              go_wp2_with fail
              go_ret
              exact ⟨by rw [hgo.out, hch]; simp, iter_below w s _⟩
            · have d3 : decide (r < (48 : Int)) = false := decide_eq_false a3
              by_cases a4 : 57 < r
              · have d4 : decide ((57 : Int) < r) = true := decide_eq_true a4
                by_cases a5 : r = 95
                · have d5 : (r != 95) = false := bne_eq_false_iff_eq.mpr a5
                  have hch : nameCh (pos == 0) r = true := by simp [nameCh]; omega
                  go_wp2_with fail
                  go_roundw
                  case rel => exact ⟨pos + wd, b, rfl, ⟨by rw [hgo.out, hch]; simp⟩, by omega⟩
                  case measure => simp; omega
                · have d5 : (r != 95) = true := bne_iff_ne.mpr a5
                  have hch : nameCh (pos == 0) r = false := by simp [nameCh]; omega
                  go_wp2_with fail
                  go_ret
                  exact ⟨by rw [hgo.out, hch]; simp, iter_below w s _⟩
              · have d4 : decide ((57 : Int) < r) = false := decide_eq_false a4
                have hch : nameCh (pos == 0) r = true := by simp [nameCh]; omega
                go_wp2_with fail
                go_roundw
                case rel => exact ⟨pos + wd, b, rfl, ⟨by rw [hgo.out, hch]; simp⟩, by omega⟩
                case measure => simp; omega
    · have hnx : ∀ ty, (Instr.next (.pointer (some ⟨w.heap.size, 0, none⟩)) true ty).run Tryd.prog (w.iter s pos) = _ := fun ty => run_next_end w s pos ty hp
      have HGi : Glob (w.iter s pos) := Glob_below HG.out (iter_below w s pos)
      go_wp2_with fail
      refine (HRs.out _ HGi).mono ?_
      rintro e w2 ⟨rfl, hb2⟩
      have HB := Aside0.mk hb2
      clear hb2
      go_wp2_with fail
      go_ret
      refine ⟨?_, ?_⟩
      · rw [← hc.out]
        cases b with
        | zero => simp [nameGo]
        | succ b => simp [nameGo, hp]
      · exact (iter_below w s pos).trans (HB.out.mono (iter_below w s pos).size)
theorem resL_ascii : resL.all (fun b => decide (b.toNat < 128)) = true := by decide +kernel
theorem resL_size : (⟨resL.toArray⟩ : ByteArray).size < 4294967281 := by decide +kernel
theorem res_len : resWords.length ≤ 9223372036854775807 := by decide +kernel
set_option maxHeartbeats 1000000 in
theorem isRes_any (s : ByteArray) (w : World) (hG : Glob w) :
    Calls Tryd.prog 32 #[.string s] w fun e w' => e = .returned (.bool (isRes s)) ∧ Below w.heap.size w w' := by
  have HG := Aside0.mk hG
  clear hG
  go_enter Tryd.func32, Tryd.ntmps32
  go_wp2_with fail
  refine (Tryd.strings_Fields ⟨resL.toArray⟩ w resL_size (fun j b h => by
    have := List.all_eq_true.1 resL_ascii b (List.mem_of_getElem? (by simpa using h))
    simpa using this) HG.out.space).mono ?_
  rintro e w1 ⟨rfl, rfl⟩
  have hrw : ((Lib.fields (⟨resL.toArray⟩ : ByteArray).data.toList).map fun l => Value.string ⟨l.toArray⟩) = resWords.map Value.string := by simp [resWords]
  have hln : (Lib.fields (⟨resL.toArray⟩ : ByteArray).data.toList).length = resWords.length := by simp [resWords]
  rw [hrw, hln]
  clear hrw hln
  go_wp2_with fail
  refine (Tryd.slices_Contains_string w.heap.size 0 resWords.length resWords.length resWords s _ (Nat.le_refl _) res_len ?_).mono ?_
  · intro j hj
    rw [Nat.zero_add]
    refine (blk_cell (g := w.heap.size) (cs := (resWords.map Value.string).toArray) (t := 9) (by first | exact heap_alloc_new _ _ | simp) j).trans ?_
    simp [List.getD, hj]
  rintro e w1 ⟨rfl, rfl⟩
  rw [List.take_length]
  go_wp2_with fail
  go_ret
  exact ⟨rfl, (Below.refl _ _).alloc (Nat.le_refl _) _⟩

def validB (s : ByteArray) : Bool := if s.size = 0 ∨ 12 < s.size then false else nameGo s s.size 0 && !isRes s
def protocol_ValidName.f (a0 : ByteArray) : Option Bool := some (validB a0)
set_option maxHeartbeats 1000000 in
theorem protocol_ValidName.calls (a0 : ByteArray) (r : Bool) (w : World) (hG : Glob w) (h : protocol_ValidName.f a0 = some r) :
    Calls Tryd.prog 13 #[.string a0] w fun e w' => e = .returned (.bool r) ∧ Below w.heap.size w w' := by
  obtain rfl := Option.some.inj h
  unfold validB
  by_cases h0 : a0.size = 0
  · rw [if_pos (.inl h0)]
    have c1 : (a0.toList == ([] : List UInt8)) = true := by
      rw [ByteArray.toList_eq, beq_iff_eq]
      exact List.eq_nil_of_length_eq_zero (by simpa using h0)
    go_enter Tryd.func13, Tryd.ntmps13
    go_wp2_with fail
    go_ret
    exact ⟨rfl, Below.refl _ _⟩
  · by_cases h1 : 12 < a0.size
    · rw [if_pos (.inr h1)]
      have c1 : (a0.toList == ([] : List UInt8)) = false := by
        rw [ByteArray.toList_eq, beq_eq_false_iff_ne]
        intro h
        have h2 : a0.data.toList.length = a0.size := by simp
        rw [h] at h2
        exact h0 h2.symm
      have c2 : decide ((12 : Int) < (a0.size : Int)) = true := decide_eq_true (by omega)
      go_enter Tryd.func13, Tryd.ntmps13
      go_wp2_with fail
      go_ret
      exact ⟨rfl, Below.refl _ _⟩
    · rw [if_neg (by omega)]
      exact validName_any a0 w (isRes a0) hG (fun w' hw' => isRes_any a0 w' hw') (by omega) (by omega)
end Go.Proofs.YtoggkfapdomhgaaDoor.Pr
