/- The contract of linear.item: what a word adds to the row under its pointer; conditions: the row's two blocks (RowSt), and what the library's variables hold (Glob). -/
import Derived.Test.YthgnpbaldhemiaaDoorHc
namespace Go.Proofs.YthgnpbaldhemiaaDoor.Pr
open Go.RowKit Go.Proofs.YthgnpbaldhemiaaDoorW.PrintWords Go.Proofs.YthgnpbaldhemiaaDoorW.PrintLast Go.Proofs.YthgnpbaldhemiaaDoorW.PrintMore
set_option linter.unusedVariables false
set_option linter.unusedSimpArgs false

/-- The row variable in block g, its coefficients in block s. -/
structure RowSt (w : World) (g s : Nat) (cs : List Int) (k : Int) : Prop where
  row : w.heap[g]? = some (.cells #[.slice (some ⟨s, 0, none⟩) cs.length cs.length, .int .i64 k] 25 (0, 0))
  coef : w.heap[s]? = some (.cells (nums .i64 cs).toArray 3 (0, 0))
  ne : g ≠ s
theorem RowSt.below {w w1 : World} {g s : Nat} {cs : List Int} {k : Int} (h : RowSt w g s cs k) (hb : Below w.heap.size w w1) : RowSt w1 g s cs k := ⟨blk_below h.row hb, blk_below h.coef hb, h.ne⟩
/-- All else stays. -/
structure Keep2 (w w' : World) (g s : Nat) : Prop where
  os : w'.os = w.os
  tape : w'.tape = w.tape
  output : w'.output = w.output
  size : w.heap.size ≤ w'.heap.size
  block : ∀ i, i < w.heap.size → i ≠ g → i ≠ s → w'.heap[i]? = w.heap[i]?
theorem Keep2.of_below {w w' : World} (h : Below w.heap.size w w') (g s : Nat) : Keep2 w w' g s := ⟨h.os, h.tape, h.output, h.size, fun i hi _ _ => h.block i hi⟩
theorem Keep2.set_ {w w' : World} {g s : Nat} (h : Keep2 w w' g s) {p : Addr} (hp : p.block = g ∨ p.block = s) (u : Value) : Keep2 w (w'.setCell p u) g s :=
  ⟨h.os, h.tape, h.output, by simpa [World.setCell] using h.size, fun i hi h1 h2 => (Below.heap_setCell w' p u i (by rcases hp with e | e <;> rw [e] <;> assumption)).trans (h.block i hi h1 h2)⟩
theorem Keep2.below {w w' : World} {g s B : Nat} (h : Keep2 w w' g s) (hg : B ≤ g) (hs : B ≤ s) (hw : B ≤ w.heap.size) : Below B w w' := ⟨h.os, h.tape, h.output, h.size, fun i hi => h.block i (by omega) (by omega) (by omega)⟩

/-- What item makes of a row. -/
def itemF (cs : List Int) (k sign : Int) (word : List UInt8) : Option (List Int × Int) :=
  if Lib.hasPrefix (if (Lib.cut word [42]).2.2 then (Lib.cut word [42]).2.1 else word) [120] then
    match Lib.atoiAll (Lib.trimPrefix (if (Lib.cut word [42]).2.2 then (Lib.cut word [42]).2.1 else word) [120]), Lib.atoiAll (if (Lib.cut word [42]).2.2 then (Lib.cut word [42]).1 else [49]) with
    | .ok i, .ok c => if 0 ≤ i ∧ i < cs.length ∧ inB c = true then some (cs.set i.toNat (sign * c), k) else none
    | _, _ => none
  else match Lib.atoiAll word with
    | .ok c => if (Lib.cut word [42]).2.2 = false ∧ inB c = true then some (cs, sign * c) else none
    | _ => none

theorem cut_any (s : ByteArray) (hs : s.size ≤ 5000) (p : Bool) (hp : (Lib.cut s.data.toList [42]).2.2 = p) (w : World) (hG : Glob w) :
    Calls Tryd.prog 35 #[.string s, .string ⟨#[42]⟩] w fun e w' => ∃ a b : ByteArray, e = .returned (.tuple #[.string a, .string b, .bool p]) ∧ Aside0 (a.data.toList = (Lib.cut s.data.toList [42]).1) ∧ Aside0 (b.data.toList = (Lib.cut s.data.toList [42]).2.1) ∧ Below w.heap.size w w' := by
  obtain ⟨m, hm⟩ := hG.maxLen
  refine (Tryd.strings_Cut s ⟨#[42]⟩ m w (by omega) hm).mono ?_
  rintro e w' ⟨h1, n, h2⟩
  exact ⟨⟨(Lib.cut s.data.toList [42]).1.toArray⟩, ⟨(Lib.cut s.data.toList [42]).2.1.toArray⟩, h1.trans (hp ▸ rfl), ⟨by simp⟩, ⟨by simp⟩, by rw [h2]; exact below_drewN (Below.refl _ _) n⟩
theorem prefix_any (s p : ByteArray) (b : Bool) (hp : Lib.hasPrefix s.data.toList p.data.toList = b) (w : World) :
    Calls Tryd.prog 15 #[.string s, .string p] w fun e w' => ∃ a : ByteArray, e = .returned (.tuple #[.string a, .bool b]) ∧ Aside0 (a.data.toList = Lib.trimPrefix s.data.toList p.data.toList) ∧ w = w' := by
  refine (Tryd.strings_CutPrefix s p w).mono ?_
  rintro e w' ⟨h1, h2⟩
  exact ⟨⟨(Lib.trimPrefix s.data.toList p.data.toList).toArray⟩, h1.trans (hp ▸ rfl), ⟨by simp⟩, h2.symm⟩
theorem atoi_good (s : ByteArray) (hs : s.size ≤ 5000) (v : Int) (h : Lib.atoiAll s.data.toList = .ok v) (w : World) :
    Calls Tryd.prog 36 #[.string s] w fun e w' => e = .returned (.tuple #[.int .i64 v, .nilIface]) ∧ Below w.heap.size w w' := by
  refine (Tryd.strconv_Atoi_ok s (by omega) v h w).mono ?_
  rintro e w' ⟨h1, rfl | ⟨t, rfl⟩⟩
  · exact ⟨h1, Below.refl _ _⟩
  · exact ⟨h1, bytes_below (Below.refl _ _) (Nat.le_refl _) _ _⟩
theorem atoi_bad (s : ByteArray) (hs : s.size ≤ 5000) (h : ∀ v, Lib.atoiAll s.data.toList ≠ .ok v) (w : World) (hG : Glob w) :
    Calls Tryd.prog 36 #[.string s] w fun e w' => ∃ (v : Int) (N : Nat), e = .returned (.tuple #[.int .i64 v, .iface 90 (.pointer (some ⟨N, 0, none⟩))]) ∧ Below w.heap.size w w' := by
  obtain ⟨tp, p, hp⟩ := hG.syn
  obtain ⟨tq, q, hq⟩ := hG.rng
  cases hA : Lib.atoiAll s.data.toList with
  | ok v => exact absurd hA (h v)
  | range =>
    refine (Tryd.strconv_Atoi_range_var s (by omega) hA tq q w hq).mono ?_
    rintro e w' ⟨N, h1, _, _, hb⟩
    exact ⟨_, N, h1, hb⟩
  | _ =>
    have hc : Calls Tryd.prog 36 #[.string s] w fun e w' => ∃ N, e = .returned (.tuple #[.int .i64 0, .iface 90 (.pointer (some ⟨N, 0, none⟩))]) ∧ w.heap.size ≤ N ∧ w'.heap[N]? = some (.cells #[.string ⟨#[65, 116, 111, 105]⟩, .string s, .iface tp p] 106 (0, 0)) ∧ Below w.heap.size w w' := Any.strconv_Atoi_syntax_var Tryd.laysC172 s (by omega) hA tp p w hp
    refine hc.mono ?_
    rintro e w' ⟨N, h1, _, _, hb⟩
    exact ⟨0, N, h1, hb⟩
end Go.Proofs.YthgnpbaldhemiaaDoor.Pr
