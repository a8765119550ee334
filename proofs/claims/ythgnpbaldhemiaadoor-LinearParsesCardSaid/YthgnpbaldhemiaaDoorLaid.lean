/- What the rows' list gives a walk (Glob), and a world for the rows' witness. -/
import Derived.Test.YthgnpbaldhemiaaDoorCards
import Derived.Test.YthgnpbaldhemiaaDoorTie
import Derived.Test.YthgnpbaldhemiaaDoorHa
import Derived.WalkKit
import Derived.ProofKit
import Derived.OpenShut
import Derived.Below
import Derived.Carry
import Derived.SizedLaws
import Derived.ChangeSame
import Derived.ChangeMaps5
import Derived.ChangeSlices
import Derived.Deep.DeepHandedRow
import Derived.Deep.DeepLaidRun
import Derived.Lib.LaidTab
import Derived.Lib.SmallJoins
import Derived.Stop.LaidErr
import Derived.Stop.ErrReads
namespace Go.Proofs.YthgnpbaldhemiaaDoor.Laid
open Go.ChangeShapes Go.WideShapes Go.ChangeAt Go.RowKit
open Go.Proofs.YthgnpbaldhemiaaDoor.Pr
set_option linter.unusedVariables false
set_option maxRecDepth 100000

theorem own : ownKnob Tryd.prog.godebug = none := by kernel_rfl
theorem laidOut : laidOutB Tryd.prog = true := by kernel_rfl
theorem tPow : (Tryd.prog.globals[3]?).map (·.type) = some 109 := by kernel_rfl
theorem tSyn : (Tryd.prog.globals[1]?).map (·.type) = some 68 := by kernel_rfl
theorem tRng : (Tryd.prog.globals[2]?).map (·.type) = some 68 := by kernel_rfl
theorem star : "*" ++ "errors.errorString" = "*errors.errorString" := by decide
theorem errRow (u : TypeId) (h : Tryd.prog.typeName? 3 u = some "*errors.errorString") : u = 121 :=
  typeName_ptr_named (nm := "errors.errorString") (by rw [star]; kernel_rfl) (by kernel_rfl) (by decide) u (by rw [star]; exact h)

theorem maxLen_of_shape {W : World} (h : W.ShapedOpen Tryd.prog) : ∃ m, W.cell? ⟨0, 0, none⟩ = some (.int .i64 m) := by
  obtain ⟨cs, hh, hs, hr⟩ := h.1 0 #[.int .i64 0] 3 (of_decide_eq_true (by kernel_rfl)) (by kernel_rfl)
  obtain ⟨ts, hts, _, hall⟩ := hr (by kernel_rfl)
  rw [show Tryd.prog.cellTypes Tryd.prog.depth 3 = some [3] by kernel_rfl] at hts
  cases hts
  have h1 : 0 < cs.size := by rw [hs]; decide
  obtain ⟨u, hu', hok⟩ := hall 0 cs[0] (by simp [h1])
  have : u = 3 := by simpa using hu'.symm
  subst this
  have hcell : W.cell? ⟨0, 0, none⟩ = some cs[0] := by simp [World.cell?, hh, h1]
  rw [hcell]
  unfold Cell.ok at hok
  rw [Tryd.underlying3] at hok
  cases hv : cs[0] <;> rw [hv] at hok <;> simp at hok
  obtain ⟨rfl, _⟩ := hok
  exact ⟨_, rfl⟩
theorem size_of_shape {W : World} (h : W.ShapedOpen Tryd.prog) : 8 ≤ W.heap.size := by
  have e : (((begin Tryd.prog (fun _ _ => 0) default).world.heap[7]?).bind Obj.row?).isSome = true := by kernel_rfl
  obtain ⟨⟨z, t⟩, e⟩ := Option.isSome_iff_exists.1 e
  obtain ⟨cs, hh, _⟩ := h.1 7 z t (of_decide_eq_true (by kernel_rfl)) e
  have := (Array.getElem?_eq_some_iff.1 hh).1
  omega

/-- WHAT THE ROW's LIST GIVES. -/
theorem glob {W : World} (h : laidMetH Tryd.prog Rows.linearTextBackRow.laid W) (hs : W.ShapedOpen Tryd.prog) : Glob W := by
  have h0 : laidMet Tryd.prog Rows.linearTextBackRow.laid W := h
  have h3 := laidMet.tail (laidMet.tail h0)
  have h5 := laidMet.tail (laidMet.tail h3)
  have h6 := laidMet.tail h5
  obtain ⟨a1, s1, v1, _⟩ := laid_sentinel h5 gnRng tRng Tryd.underlying68 errRow Tryd.underlying121 Tryd.underlying123 rfl rfl Tryd.underlying9 (by kernel_rfl) (by kernel_rfl)
  obtain ⟨a2, s2, v2, _⟩ := laid_sentinel h6 gnSyn tSyn Tryd.underlying68 errRow Tryd.underlying121 Tryd.underlying123 rfl rfl Tryd.underlying9 (by kernel_rfl) (by kernel_rfl)
  exact ⟨size_of_shape hs, maxLen_of_shape hs, ⟨_, _, v2⟩, ⟨_, _, v1⟩,
    Lib.tabIs_of_head (zs := Lib.pow10Tab) gnPow tPow Tryd.underlying109 Tryd.underlying94 (by kernel_rfl) (by kernel_rfl) h3⟩

/-! A world for the witness: the settled one, each listed variable holding what its initialiser lays. -/
noncomputable def low : Nat := (World.holding Tryd.prog default ⟨#[], #[], []⟩).heap.size
def cellOf : DataW Unit → List Value
  | .lit (.int j n) => [.int j n]
  | .agg m => m.flatMap fun x => (match x with | .lit (.int j n) => [.int j n] | _ => [])
  | _ => []
def intsOf : DataW Unit → List Value
  | .agg l => l.flatMap cellOf
  | _ => []
noncomputable def put (w : World) (g : Nat) (cs : Array Value) : World := { w with heap := w.heap.modify g fun | .cells _ t frozen => .cells cs t frozen | o => o }
noncomputable def laidWorld (os : Os) : World :=
  let w0 := World.holding Tryd.prog os ⟨#[.cells #[.string ⟨#[105, 110, 118, 97, 108, 105, 100, 32, 115, 121, 110, 116, 97, 120]⟩] 123, .cells #[.string ⟨#[118, 97, 108, 117, 101, 32, 111, 117, 116, 32, 111, 102, 32, 114, 97, 110, 103, 101]⟩] 123], #[], []⟩
  put (put (put (put (put (put (put w0 1 #[.iface 121 (.pointer (some ⟨low, 0, none⟩))]) 2 #[.iface 121 (.pointer (some ⟨low + 1, 0, none⟩))]) 3 (intsOf Rows.laid_internal_strconv_uint64pow10).toArray) 4 (intsOf Rows.laid_unicode_utf8_first).toArray)
    5 (intsOf Rows.laid_unicode_utf8_acceptRanges).toArray) 6 (intsOf Rows.laid_math_bits_deBruijn32tab).toArray) 7 (intsOf Rows.laid_math_bits_deBruijn64tab).toArray
theorem laid_met (os : Os) (args : Array Value) : laidMet Tryd.prog Rows.linearTextBackRow.laid ((laidWorld os).forCall (fun _ _ => 0) ⟨#[], args, []⟩).memory :=
  laidMet_of_run3 8 (by kernel_rfl) (by kernel_rfl) (by kernel_rfl)
end Go.Proofs.YthgnpbaldhemiaaDoor.Laid
